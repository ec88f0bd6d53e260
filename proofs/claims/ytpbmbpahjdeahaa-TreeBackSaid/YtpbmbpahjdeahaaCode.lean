/- The functions' code, as the little machine has it (printed by Show.lean). -/
import Derived.Test.YtpbmbpahjdeahaaA25
import Derived.Test.YtpbmbpahjdeahaaProg
set_option linter.all false
namespace Go.AM
open Go Go.Proofs
theorem mixed : Try.prog.follows .mixedOrders = true := by kernel_rfl
def gtab : Nat → Option (List D) := fun _ => none
abbrev TSp := Sp Try.prog gtab
abbrev TSpM := SpM Try.prog gtab
abbrev TSpC := SpC Try.prog gtab
/-- glazier/tree.New -/
def c_tree_New : C := .seq (.reg false [
  ⟨(some 0), none, .alloc [(.mp [] []), (.mp [] [])], none⟩] (some [0])) (
.seq (.reg false [
  ⟨(some 1), none, .bld [(.mp [] []), (.mp [] [])] [], none⟩,
  ⟨none, none, .st (some 2) (.t 0) (.t 1), none⟩] (some [0])) (
.ret))
set_option maxRecDepth 1000000 in
theorem comp_tree_New : (Try.f10.body.bind fun code => compC Try.prog Try.f10.ntmps code c_tree_New) = some c_tree_New.bare := by kernel_rfl
def r_tree_New : List R := [.cell 0 (some 2)]
theorem spo_tree_New {ds : List D} {d : D} (hn : Nat.ble ds.length 2 = true) (h : run TSpC gtab 0 c_tree_New (retK r_tree_New (· = d)) ⟨env0 0 ds, []⟩) : TSp 10 ds d := Sp_of mixed c_tree_New r_tree_New (fn := Try.f10) (by kernel_rfl) (by kernel_rfl) comp_tree_New (by kernel_rfl) hn h
theorem spm_tree_New {ds : List D} {d : D} {bx bx' : List Ent} (hn : Nat.ble ds.length 2 = true) (h : run TSpC gtab (sizeE bx) c_tree_New (retG r_tree_New (fun d1 bx1 => Rt (sizeE bx) bx1 d1 d bx')) ⟨env0 0 ds, bx⟩) : TSpM 10 ds bx d bx' := SpM_of mixed c_tree_New r_tree_New (fn := Try.f10) (by kernel_rfl) (by kernel_rfl) comp_tree_New (by kernel_rfl) hn h
/-- (glazier/tree.Tree).Add -/
def c_tree_Tree_Add : C := .seq (.reg false [
  ⟨(some 3), none, .box true (.t 0), none⟩,
  ⟨(some 6), none, .alloc [(.mp [] []), (.mp [] [])], none⟩,
  ⟨(some 7), none, .mv false (.c (.int .i64 0)), none⟩] (some [1, 2, 3, 6])) (
.seq (.seq (.reg false [
  ⟨(some 10), none, .mv false (.t 1), none⟩,
  ⟨(some 11), none, .call false 32 [(.t 10)], none⟩,
  ⟨(some 8), none, .mv false (.t 11), none⟩] (some [1, 2, 3, 6, 8])) (
.seq (.reg false [
  ⟨(some 12), none, .mv false (.t 8), none⟩,
  ⟨(some 13), none, .bin .neq .i64 (.t 12) (.c (.int .i64 0)), none⟩] (some [1, 2, 3, 6, 8, 13])) (
.ite (.t 13) (
  .seq (.reg false [
    ⟨(some 14), none, .ld (some 2) (.t 3), none⟩,
    ⟨(some 15), none, .mv false (.t 8), none⟩,
    ⟨none, none, .st (some 2) (.t 6) (.t 14), none⟩,
    ⟨(some 7), none, .mv false (.t 15), none⟩] (some [6, 7])) (
  .ret)) (
  .skip)))) (
.seq (.blk 0 (
  .seq (.reg false [
    ⟨(some 17), none, .ld (some 2) (.t 3), none⟩,
    ⟨(some 18), none, .mv false (.t 1), none⟩,
    ⟨(some 19), none, .call false 20 [(.t 17), (.t 18)], none⟩,
    ⟨(some 16), none, .mv false (.t 19), none⟩] (some [1, 2, 3, 6, 16])) (
  .ite (.t 16) (
    .seq (.reg false [
      ⟨(some 20), none, .ld (some 2) (.t 3), none⟩,
      ⟨none, none, .st (some 2) (.t 6) (.t 20), none⟩,
      ⟨(some 7), none, .mv false (.c (.int .i64 7)), none⟩] (some [6, 7])) (
    .ret)) (
    .seq (.reg false [
      ⟨(some 22), none, .ld (some 2) (.t 3), none⟩,
      ⟨(some 23), none, .mv false (.t 2), none⟩,
      ⟨(some 24), none, .call false 20 [(.t 22), (.t 23)], none⟩,
      ⟨(some 25), none, .not (.t 24), none⟩,
      ⟨(some 21), none, .mv false (.t 25), none⟩] (some [1, 2, 3, 6, 21])) (
    .ite (.t 21) (
      .seq (.reg false [
        ⟨(some 26), none, .ld (some 2) (.t 3), none⟩,
        ⟨none, none, .st (some 2) (.t 6) (.t 26), none⟩,
        ⟨(some 7), none, .mv false (.c (.int .i64 6)), none⟩] (some [6, 7])) (
      .ret)) (
      .seq (.reg false [
        ⟨(some 28), none, .fld 1 (.t 3), none⟩,
        ⟨(some 29), none, .ld none (.t 28), none⟩,
        ⟨(some 30), none, .prm false false (.lenm 23) [(.t 29)], none⟩,
        ⟨(some 31), none, .bin .add .i64 (.t 30) (.c (.int .i64 1)), none⟩,
        ⟨(some 32), none, .bin .geq .i64 (.t 31) (.c (.int .i64 64)), none⟩,
        ⟨(some 27), none, .mv false (.t 32), none⟩] (some [1, 2, 3, 6, 27])) (
      .ite (.t 27) (
        .seq (.reg false [
          ⟨(some 33), none, .ld (some 2) (.t 3), none⟩,
          ⟨none, none, .st (some 2) (.t 6) (.t 33), none⟩,
          ⟨(some 7), none, .mv false (.c (.int .i64 5)), none⟩] (some [6, 7])) (
        .ret)) (
        .skip)))))))) (
.seq (.reg false [
  ⟨(some 34), none, .ld (some 2) (.t 3), none⟩,
  ⟨(some 35), none, .call true 33 [(.t 34)], none⟩,
  ⟨(some 9), none, .alloc [(.mp [] []), (.mp [] [])], none⟩,
  ⟨none, none, .st (some 2) (.t 9) (.t 35), none⟩] (some [1, 2, 6, 9])) (
.seq (.reg false [
  ⟨(some 36), none, .ld (some 2) (.t 9), none⟩,
  ⟨(some 37), none, .mv false (.t 1), none⟩,
  ⟨(some 38), none, .mv false (.t 2), none⟩,
  ⟨(some 39), none, .call true 34 [(.t 36), (.t 37), (.t 38)], none⟩] (some [6, 9])) (
.seq (.reg false [
  ⟨(some 40), none, .ld (some 2) (.t 9), none⟩,
  ⟨none, none, .st (some 2) (.t 6) (.t 40), none⟩,
  ⟨(some 7), none, .mv false (.c (.int .i64 0)), none⟩] (some [6, 7])) (
.ret))))))
set_option maxRecDepth 1000000 in
theorem comp_tree_Tree_Add : (Try.f11.body.bind fun code => compC Try.prog Try.f11.ntmps code c_tree_Tree_Add) = some c_tree_Tree_Add.bare := by kernel_rfl
def r_tree_Tree_Add : List R := [.cell 6 (some 2), .t 7]
theorem spo_tree_Tree_Add {ds : List D} {d : D} (hn : Nat.ble ds.length 41 = true) (h : run TSpC gtab 0 c_tree_Tree_Add (retK r_tree_Tree_Add (· = d)) ⟨env0 0 ds, []⟩) : TSp 11 ds d := Sp_of mixed c_tree_Tree_Add r_tree_Tree_Add (fn := Try.f11) (by kernel_rfl) (by kernel_rfl) comp_tree_Tree_Add (by kernel_rfl) hn h
theorem spm_tree_Tree_Add {ds : List D} {d : D} {bx bx' : List Ent} (hn : Nat.ble ds.length 41 = true) (h : run TSpC gtab (sizeE bx) c_tree_Tree_Add (retG r_tree_Tree_Add (fun d1 bx1 => Rt (sizeE bx) bx1 d1 d bx')) ⟨env0 0 ds, bx⟩) : TSpM 11 ds bx d bx' := SpM_of mixed c_tree_Tree_Add r_tree_Tree_Add (fn := Try.f11) (by kernel_rfl) (by kernel_rfl) comp_tree_Tree_Add (by kernel_rfl) hn h
/-- (glazier/tree.Tree).Path -/
def c_tree_Tree_Path : C := .seq (.reg false [
  ⟨(some 2), none, .box true (.t 0), none⟩,
  ⟨(some 4), none, .nilS 28 1, none⟩] (some [1, 2])) (
.seq (.seq (.reg false [
  ⟨(some 6), none, .ld (some 2) (.t 2), none⟩,
  ⟨(some 7), none, .mv false (.t 1), none⟩,
  ⟨(some 8), none, .call false 20 [(.t 6), (.t 7)], none⟩,
  ⟨(some 9), none, .not (.t 8), none⟩] (some [1, 2, 9])) (
.ite (.t 9) (
  .seq (.reg false [
    ⟨(some 4), none, .nilS 28 1, none⟩] (some [4])) (
  .ret)) (
  .skip))) (
.seq (.reg false [
  ⟨(some 10), none, .mv false (.t 1), none⟩,
  ⟨(some 11), none, .bsl (some false) 28 1 none [(.t 10)], none⟩,
  ⟨(some 5), none, .mv false (.t 11), none⟩] (some [1, 2, 5])) (
.seq (.blk 0 (
  .loop (
    .seq (.seq (.reg false [
      ⟨(some 12), none, .mv false (.t 1), none⟩,
      ⟨(some 13), none, .bin .neq .u32 (.t 12) (.c (.int .u32 1)), none⟩] (some [1, 2, 5, 13])) (
    .ite (.t 13) (
      .skip) (
      .exit 0))) (
    .blk 1 (
      .seq (.reg false [
        ⟨(some 14), none, .fld 1 (.t 2), none⟩,
        ⟨(some 15), none, .ld none (.t 14), none⟩,
        ⟨(some 16), none, .mv false (.t 1), none⟩,
        ⟨(some 17), none, .prm false false (.lkp 23 false) [(.t 15), (.t 16)], none⟩,
        ⟨(some 1), none, .mv false (.t 17), none⟩] (some [1, 2, 5])) (
      .reg false [
        ⟨(some 18), none, .mv false (.t 5), none⟩,
        ⟨(some 19), none, .mv false (.t 1), none⟩,
        ⟨(some 20), none, .bsl none 28 1 none [(.t 19)], none⟩,
        ⟨(some 21), none, .app 28 1 4 (.t 18) (.t 20), none⟩,
        ⟨(some 5), none, .mv false (.t 21), none⟩] (some [1, 2, 5]))))))) (
.seq (.reg false [
  ⟨(some 22), none, .mv false (.t 5), none⟩,
  ⟨(some 4), none, .mv false (.t 22), none⟩] (some [4])) (
.ret)))))
set_option maxRecDepth 1000000 in
theorem comp_tree_Tree_Path : (Try.f12.body.bind fun code => compC Try.prog Try.f12.ntmps code c_tree_Tree_Path) = some c_tree_Tree_Path.bare := by kernel_rfl
def r_tree_Tree_Path : List R := [.t 4]
theorem spo_tree_Tree_Path {ds : List D} {d : D} (hn : Nat.ble ds.length 23 = true) (h : run TSpC gtab 0 c_tree_Tree_Path (retK r_tree_Tree_Path (· = d)) ⟨env0 0 ds, []⟩) : TSp 12 ds d := Sp_of mixed c_tree_Tree_Path r_tree_Tree_Path (fn := Try.f12) (by kernel_rfl) (by kernel_rfl) comp_tree_Tree_Path (by kernel_rfl) hn h
theorem spm_tree_Tree_Path {ds : List D} {d : D} {bx bx' : List Ent} (hn : Nat.ble ds.length 23 = true) (h : run TSpC gtab (sizeE bx) c_tree_Tree_Path (retG r_tree_Tree_Path (fun d1 bx1 => Rt (sizeE bx) bx1 d1 d bx')) ⟨env0 0 ds, bx⟩) : TSpM 12 ds bx d bx' := SpM_of mixed c_tree_Tree_Path r_tree_Tree_Path (fn := Try.f12) (by kernel_rfl) (by kernel_rfl) comp_tree_Tree_Path (by kernel_rfl) hn h
/-- (glazier/tree.Tree).Below -/
def c_tree_Tree_Below : C := .seq (.reg false [
  ⟨(some 2), none, .box true (.t 0), none⟩,
  ⟨(some 4), none, .nilS 28 1, none⟩] (some [1, 2])) (
.seq (.seq (.reg false [
  ⟨(some 7), none, .ld (some 2) (.t 2), none⟩,
  ⟨(some 8), none, .mv false (.t 1), none⟩,
  ⟨(some 9), none, .call false 20 [(.t 7), (.t 8)], none⟩,
  ⟨(some 10), none, .not (.t 9), none⟩] (some [1, 2, 10])) (
.ite (.t 10) (
  .seq (.reg false [
    ⟨(some 4), none, .nilS 28 1, none⟩] (some [4])) (
  .ret)) (
  .skip))) (
.seq (.reg false [
  ⟨(some 5), none, .alloc [(.bsl 28 0 1 0)], none⟩] (some [1, 2, 5])) (
.seq (.reg false [
  ⟨(some 6), none, .alloc [.nil], none⟩] (some [1, 2, 5, 6])) (
.seq (.reg false [
  ⟨(some 11), none, .clo 35 [(.t 5), (.t 2), (.t 6)], none⟩,
  ⟨none, none, .st none (.t 6) (.t 11), none⟩] (some [1, 5, 6])) (
.seq (.reg false [
  ⟨(some 12), none, .ld none (.t 6), none⟩,
  ⟨(some 13), none, .mv false (.t 1), none⟩,
  ⟨(some 14), none, .callv true (.t 12) [(.t 13)], none⟩] (some [5])) (
.seq (.reg false [
  ⟨(some 15), none, .ld none (.t 5), none⟩,
  ⟨(some 4), none, .mv false (.t 15), none⟩] (some [4])) (
.ret)))))))
set_option maxRecDepth 1000000 in
theorem comp_tree_Tree_Below : (Try.f14.body.bind fun code => compC Try.prog Try.f14.ntmps code c_tree_Tree_Below) = some c_tree_Tree_Below.bare := by kernel_rfl
def r_tree_Tree_Below : List R := [.t 4]
theorem spo_tree_Tree_Below {ds : List D} {d : D} (hn : Nat.ble ds.length 16 = true) (h : run TSpC gtab 0 c_tree_Tree_Below (retK r_tree_Tree_Below (· = d)) ⟨env0 0 ds, []⟩) : TSp 14 ds d := Sp_of mixed c_tree_Tree_Below r_tree_Tree_Below (fn := Try.f14) (by kernel_rfl) (by kernel_rfl) comp_tree_Tree_Below (by kernel_rfl) hn h
theorem spm_tree_Tree_Below {ds : List D} {d : D} {bx bx' : List Ent} (hn : Nat.ble ds.length 16 = true) (h : run TSpC gtab (sizeE bx) c_tree_Tree_Below (retG r_tree_Tree_Below (fun d1 bx1 => Rt (sizeE bx) bx1 d1 d bx')) ⟨env0 0 ds, bx⟩) : TSpM 14 ds bx d bx' := SpM_of mixed c_tree_Tree_Below r_tree_Tree_Below (fn := Try.f14) (by kernel_rfl) (by kernel_rfl) comp_tree_Tree_Below (by kernel_rfl) hn h
/-- (glazier/tree.Tree).Move -/
def c_tree_Tree_Move : C := .seq (.reg false [
  ⟨(some 3), none, .box true (.t 0), none⟩,
  ⟨(some 6), none, .alloc [(.mp [] []), (.mp [] [])], none⟩,
  ⟨(some 7), none, .mv false (.c (.int .i64 0)), none⟩] (some [1, 2, 3, 6])) (
.seq (.seq (.reg false [
  ⟨(some 10), none, .ld (some 2) (.t 3), none⟩,
  ⟨(some 11), none, .mv false (.t 1), none⟩,
  ⟨(some 12), none, .call false 36 [(.t 10), (.t 11)], none⟩,
  ⟨(some 8), none, .mv false (.t 12), none⟩] (some [1, 2, 3, 6, 8])) (
.seq (.reg false [
  ⟨(some 13), none, .mv false (.t 8), none⟩,
  ⟨(some 14), none, .bin .neq .i64 (.t 13) (.c (.int .i64 0)), none⟩] (some [1, 2, 3, 6, 8, 14])) (
.ite (.t 14) (
  .seq (.reg false [
    ⟨(some 15), none, .ld (some 2) (.t 3), none⟩,
    ⟨(some 16), none, .mv false (.t 8), none⟩,
    ⟨none, none, .st (some 2) (.t 6) (.t 15), none⟩,
    ⟨(some 7), none, .mv false (.t 16), none⟩] (some [6, 7])) (
  .ret)) (
  .skip)))) (
.seq (.seq (.reg false [
  ⟨(some 17), none, .ld (some 2) (.t 3), none⟩,
  ⟨(some 18), none, .mv false (.t 2), none⟩,
  ⟨(some 19), none, .call false 20 [(.t 17), (.t 18)], none⟩,
  ⟨(some 20), none, .not (.t 19), none⟩] (some [1, 2, 3, 6, 20])) (
.ite (.t 20) (
  .seq (.reg false [
    ⟨(some 21), none, .ld (some 2) (.t 3), none⟩,
    ⟨none, none, .st (some 2) (.t 6) (.t 21), none⟩,
    ⟨(some 7), none, .mv false (.c (.int .i64 6)), none⟩] (some [6, 7])) (
  .ret)) (
  .skip))) (
.seq (.seq (.reg false [
  ⟨(some 22), none, .ld (some 2) (.t 3), none⟩,
  ⟨(some 23), none, .mv false (.t 2), none⟩,
  ⟨(some 24), none, .call false 12 [(.t 22), (.t 23)], none⟩,
  ⟨(some 25), none, .mv false (.t 1), none⟩,
  ⟨(some 26), none, .call false 37 [(.t 24), (.t 25)], none⟩] (some [1, 2, 3, 6, 26])) (
.ite (.t 26) (
  .seq (.reg false [
    ⟨(some 27), none, .ld (some 2) (.t 3), none⟩,
    ⟨none, none, .st (some 2) (.t 6) (.t 27), none⟩,
    ⟨(some 7), none, .mv false (.c (.int .i64 19)), none⟩] (some [6, 7])) (
  .ret)) (
  .skip))) (
.seq (.reg false [
  ⟨(some 28), none, .ld (some 2) (.t 3), none⟩,
  ⟨(some 29), none, .call true 33 [(.t 28)], none⟩,
  ⟨(some 9), none, .alloc [(.mp [] []), (.mp [] [])], none⟩,
  ⟨none, none, .st (some 2) (.t 9) (.t 29), none⟩] (some [1, 2, 6, 9])) (
.seq (.reg false [
  ⟨(some 30), none, .ld (some 2) (.t 9), none⟩,
  ⟨(some 31), none, .mv false (.t 1), none⟩,
  ⟨(some 32), none, .call true 38 [(.t 30), (.t 31)], none⟩] (some [1, 2, 6, 9])) (
.seq (.reg false [
  ⟨(some 33), none, .ld (some 2) (.t 9), none⟩,
  ⟨(some 34), none, .mv false (.t 1), none⟩,
  ⟨(some 35), none, .mv false (.t 2), none⟩,
  ⟨(some 36), none, .call true 34 [(.t 33), (.t 34), (.t 35)], none⟩] (some [6, 9])) (
.seq (.reg false [
  ⟨(some 37), none, .ld (some 2) (.t 9), none⟩,
  ⟨none, none, .st (some 2) (.t 6) (.t 37), none⟩,
  ⟨(some 7), none, .mv false (.c (.int .i64 0)), none⟩] (some [6, 7])) (
.ret))))))))
set_option maxRecDepth 1000000 in
theorem comp_tree_Tree_Move : (Try.f16.body.bind fun code => compC Try.prog Try.f16.ntmps code c_tree_Tree_Move) = some c_tree_Tree_Move.bare := by kernel_rfl
def r_tree_Tree_Move : List R := [.cell 6 (some 2), .t 7]
theorem spo_tree_Tree_Move {ds : List D} {d : D} (hn : Nat.ble ds.length 38 = true) (h : run TSpC gtab 0 c_tree_Tree_Move (retK r_tree_Tree_Move (· = d)) ⟨env0 0 ds, []⟩) : TSp 16 ds d := Sp_of mixed c_tree_Tree_Move r_tree_Tree_Move (fn := Try.f16) (by kernel_rfl) (by kernel_rfl) comp_tree_Tree_Move (by kernel_rfl) hn h
theorem spm_tree_Tree_Move {ds : List D} {d : D} {bx bx' : List Ent} (hn : Nat.ble ds.length 38 = true) (h : run TSpC gtab (sizeE bx) c_tree_Tree_Move (retG r_tree_Tree_Move (fun d1 bx1 => Rt (sizeE bx) bx1 d1 d bx')) ⟨env0 0 ds, bx⟩) : TSpM 16 ds bx d bx' := SpM_of mixed c_tree_Tree_Move r_tree_Tree_Move (fn := Try.f16) (by kernel_rfl) (by kernel_rfl) comp_tree_Tree_Move (by kernel_rfl) hn h
/-- glazier/glazierlaw28.same -/
def c_law28_same : C := .seq (.reg false [
  ⟨(some 4), none, .mv false (.c (.bool false)), none⟩] (some [0, 1])) (
.seq (.seq (.reg false [
  ⟨(some 6), none, .mv false (.t 0), none⟩,
  ⟨(some 7), none, .len false (.t 6), none⟩,
  ⟨(some 8), none, .mv false (.t 1), none⟩,
  ⟨(some 9), none, .len false (.t 8), none⟩,
  ⟨(some 10), none, .bin .neq .i64 (.t 7) (.t 9), none⟩] (some [0, 1, 10])) (
.ite (.t 10) (
  .seq (.reg false [
    ⟨(some 4), none, .mv false (.c (.bool false)), none⟩] (some [4])) (
  .ret)) (
  .skip))) (
.seq (.seq (.reg false [
  ⟨(some 11), none, .mv false (.t 0), none⟩,
  ⟨(some 12), none, .len false (.t 11), none⟩,
  ⟨(some 13), none, .mv false (.c (.int .i64 0)), none⟩] (some [0, 1, 12, 13])) (
.blk 0 (
  .loop (
    .seq (.reg false [
      ⟨(some 14), none, .bin .lss .i64 (.t 13) (.t 12), none⟩] (some [0, 1, 12, 13, 14])) (
    .seq (.ite (.t 14) (
      .skip) (
      .exit 0)) (
    .seq (.blk 1 (
      .seq (.reg false [
        ⟨(some 15), none, .mv false (.t 13), none⟩,
        ⟨(some 5), none, .mv false (.t 15), none⟩] (some [0, 1, 5, 12, 13])) (
      .seq (.reg true [
        ⟨(some 16), none, .mv false (.t 0), none⟩,
        ⟨(some 17), none, .mv false (.t 5), none⟩,
        ⟨(some 18), none, .ixs 1 (.t 16) (.t 17), none⟩,
        ⟨(some 19), none, .ld none (.t 18), none⟩,
        ⟨(some 20), none, .mv false (.t 1), none⟩,
        ⟨(some 21), none, .mv false (.t 5), none⟩,
        ⟨(some 22), none, .ixs 1 (.t 20) (.t 21), none⟩,
        ⟨(some 23), none, .ld none (.t 22), none⟩,
        ⟨(some 24), none, .bin .neq .u32 (.t 19) (.t 23), none⟩] (some [0, 1, 12, 13, 24])) (
      .ite (.t 24) (
        .seq (.reg false [
          ⟨(some 4), none, .mv false (.c (.bool false)), none⟩] (some [4])) (
        .ret)) (
        .skip))))) (
    .reg false [
      ⟨(some 25), none, .bin .add .i64 (.t 13) (.c (.int .i64 1)), none⟩,
      ⟨(some 13), none, .mv false (.t 25), none⟩] (some [0, 1, 12, 13])))))))) (
.seq (.reg false [
  ⟨(some 4), none, .mv false (.c (.bool true)), none⟩] (some [4])) (
.ret))))
set_option maxRecDepth 1000000 in
theorem comp_law28_same : (Try.f17.body.bind fun code => compC Try.prog Try.f17.ntmps code c_law28_same) = some c_law28_same.bare := by kernel_rfl
def r_law28_same : List R := [.t 4]
theorem spo_law28_same {ds : List D} {d : D} (hn : Nat.ble ds.length 26 = true) (h : run TSpC gtab 0 c_law28_same (retK r_law28_same (· = d)) ⟨env0 0 ds, []⟩) : TSp 17 ds d := Sp_of mixed c_law28_same r_law28_same (fn := Try.f17) (by kernel_rfl) (by kernel_rfl) comp_law28_same (by kernel_rfl) hn h
theorem spm_law28_same {ds : List D} {d : D} {bx bx' : List Ent} (hn : Nat.ble ds.length 26 = true) (h : run TSpC gtab (sizeE bx) c_law28_same (retG r_law28_same (fun d1 bx1 => Rt (sizeE bx) bx1 d1 d bx')) ⟨env0 0 ds, bx⟩) : TSpM 17 ds bx d bx' := SpM_of mixed c_law28_same r_law28_same (fn := Try.f17) (by kernel_rfl) (by kernel_rfl) comp_law28_same (by kernel_rfl) hn h
/-- (glazier/tree.Tree).Meet -/
def c_tree_Tree_Meet : C := .seq (.reg false [
  ⟨(some 3), none, .box true (.t 0), none⟩,
  ⟨(some 6), none, .mv false (.c (.int .u32 0)), none⟩,
  ⟨(some 7), none, .mv false (.c (.bool false)), none⟩] (some [1, 2, 3])) (
.seq (.reg false [
  ⟨(some 11), none, .ld (some 2) (.t 3), none⟩,
  ⟨(some 12), none, .mv false (.t 2), none⟩,
  ⟨(some 13), none, .call false 12 [(.t 11), (.t 12)], none⟩,
  ⟨(some 8), none, .mv false (.t 13), none⟩] (some [1, 3, 8])) (
.seq (.seq (.reg false [
  ⟨(some 14), none, .ld (some 2) (.t 3), none⟩,
  ⟨(some 15), none, .mv false (.t 1), none⟩,
  ⟨(some 16), none, .call false 12 [(.t 14), (.t 15)], none⟩,
  ⟨(some 17), none, .len false (.t 16), none⟩,
  ⟨(some 18), none, .mv false (.c (.int .i64 0)), none⟩] (some [8, 16, 17, 18])) (
.blk 0 (
  .loop (
    .seq (.reg false [
      ⟨(some 19), none, .bin .lss .i64 (.t 18) (.t 17), none⟩] (some [8, 16, 17, 18, 19])) (
    .seq (.ite (.t 19) (
      .skip) (
      .exit 0)) (
    .seq (.blk 1 (
      .seq (.reg false [
        ⟨(some 20), none, .ixs 1 (.t 16) (.t 18), none⟩,
        ⟨(some 21), none, .ld none (.t 20), none⟩,
        ⟨(some 10), none, .mv false (.t 21), none⟩] (some [8, 10, 16, 17, 18])) (
      .seq (.reg false [
        ⟨(some 22), none, .mv false (.t 8), none⟩,
        ⟨(some 23), none, .mv false (.t 10), none⟩,
        ⟨(some 24), none, .call false 37 [(.t 22), (.t 23)], none⟩] (some [8, 10, 16, 17, 18, 24])) (
      .ite (.t 24) (
        .seq (.reg false [
          ⟨(some 25), none, .mv false (.t 10), none⟩,
          ⟨(some 6), none, .mv false (.t 25), none⟩,
          ⟨(some 7), none, .mv false (.c (.bool true)), none⟩] (some [6, 7])) (
        .ret)) (
        .skip))))) (
    .reg false [
      ⟨(some 26), none, .bin .add .i64 (.t 18) (.c (.int .i64 1)), none⟩,
      ⟨(some 18), none, .mv false (.t 26), none⟩] (some [8, 16, 17, 18])))))))) (
.seq (.reg false [
  ⟨(some 6), none, .mv false (.c (.int .u32 0)), none⟩,
  ⟨(some 7), none, .mv false (.c (.bool false)), none⟩] (some [6, 7])) (
.ret))))
set_option maxRecDepth 1000000 in
theorem comp_tree_Tree_Meet : (Try.f18.body.bind fun code => compC Try.prog Try.f18.ntmps code c_tree_Tree_Meet) = some c_tree_Tree_Meet.bare := by kernel_rfl
def r_tree_Tree_Meet : List R := [.t 6, .t 7]
theorem spo_tree_Tree_Meet {ds : List D} {d : D} (hn : Nat.ble ds.length 27 = true) (h : run TSpC gtab 0 c_tree_Tree_Meet (retK r_tree_Tree_Meet (· = d)) ⟨env0 0 ds, []⟩) : TSp 18 ds d := Sp_of mixed c_tree_Tree_Meet r_tree_Tree_Meet (fn := Try.f18) (by kernel_rfl) (by kernel_rfl) comp_tree_Tree_Meet (by kernel_rfl) hn h
theorem spm_tree_Tree_Meet {ds : List D} {d : D} {bx bx' : List Ent} (hn : Nat.ble ds.length 27 = true) (h : run TSpC gtab (sizeE bx) c_tree_Tree_Meet (retG r_tree_Tree_Meet (fun d1 bx1 => Rt (sizeE bx) bx1 d1 d bx')) ⟨env0 0 ds, bx⟩) : TSpM 18 ds bx d bx' := SpM_of mixed c_tree_Tree_Meet r_tree_Tree_Meet (fn := Try.f18) (by kernel_rfl) (by kernel_rfl) comp_tree_Tree_Meet (by kernel_rfl) hn h
/-- glazier/glazierref28.Meet -/
def c_ref28_Meet : C := .seq (.reg false [
  ⟨(some 6), none, .mv false (.c (.int .u32 0)), none⟩] (some [0, 1, 2])) (
.seq (.reg false [
  ⟨(some 10), none, .mv false (.t 0), none⟩,
  ⟨(some 11), none, .mv false (.t 1), none⟩,
  ⟨(some 12), none, .call false 22 [(.t 10), (.t 11)], none⟩,
  ⟨(some 13), none, .mv false (.t 0), none⟩,
  ⟨(some 14), none, .mv false (.t 2), none⟩,
  ⟨(some 15), none, .call false 22 [(.t 13), (.t 14)], none⟩,
  ⟨(some 7), none, .mv false (.t 12), none⟩,
  ⟨(some 8), none, .mv false (.t 15), none⟩] (some [7, 8])) (
.seq (.seq (.reg false [
  ⟨(some 9), none, .mv false (.c (.int .i64 0)), none⟩] (some [7, 8, 9])) (
.blk 0 (
  .loop (
    .seq (.seq (.reg false [
      ⟨(some 16), none, .mv false (.t 9), none⟩,
      ⟨(some 17), none, .mv false (.t 7), none⟩,
      ⟨(some 18), none, .len false (.t 17), none⟩,
      ⟨(some 19), none, .bin .lss .i64 (.t 16) (.t 18), none⟩] (some [7, 8, 9, 19])) (
    .ite (.t 19) (
      .skip) (
      .exit 0))) (
    .seq (.blk 1 (
      .seq (.reg false [
        ⟨(some 22), none, .mv false (.t 8), none⟩,
        ⟨(some 23), none, .mv false (.t 7), none⟩,
        ⟨(some 24), none, .mv false (.t 9), none⟩,
        ⟨(some 25), none, .ixs 1 (.t 23) (.t 24), none⟩,
        ⟨(some 26), none, .ld none (.t 25), none⟩,
        ⟨(some 27), none, .call false 39 [(.t 22), (.t 26)], none⟩] (some [7, 8, 9, 27])) (
      .ite (.t 27) (
        .seq (.reg false [
          ⟨(some 28), none, .mv false (.t 7), none⟩,
          ⟨(some 29), none, .mv false (.t 9), none⟩,
          ⟨(some 30), none, .ixs 1 (.t 28) (.t 29), none⟩,
          ⟨(some 31), none, .ld none (.t 30), none⟩,
          ⟨(some 6), none, .mv false (.t 31), none⟩] (some [6])) (
        .ret)) (
        .skip)))) (
    .reg false [
      ⟨(some 20), none, .mv false (.t 9), none⟩,
      ⟨(some 21), none, .bin .add .i64 (.t 20) (.c (.int .i64 1)), none⟩,
      ⟨(some 9), none, .mv false (.t 21), none⟩] (some [7, 8, 9]))))))) (
.seq (.reg false [
  ⟨(some 6), none, .mv false (.c (.int .u32 0)), none⟩] (some [6])) (
.ret))))
set_option maxRecDepth 1000000 in
theorem comp_ref28_Meet : (Try.f19.body.bind fun code => compC Try.prog Try.f19.ntmps code c_ref28_Meet) = some c_ref28_Meet.bare := by kernel_rfl
def r_ref28_Meet : List R := [.t 6]
theorem spo_ref28_Meet {ds : List D} {d : D} (hn : Nat.ble ds.length 32 = true) (h : run TSpC gtab 0 c_ref28_Meet (retK r_ref28_Meet (· = d)) ⟨env0 0 ds, []⟩) : TSp 19 ds d := Sp_of mixed c_ref28_Meet r_ref28_Meet (fn := Try.f19) (by kernel_rfl) (by kernel_rfl) comp_ref28_Meet (by kernel_rfl) hn h
theorem spm_ref28_Meet {ds : List D} {d : D} {bx bx' : List Ent} (hn : Nat.ble ds.length 32 = true) (h : run TSpC gtab (sizeE bx) c_ref28_Meet (retG r_ref28_Meet (fun d1 bx1 => Rt (sizeE bx) bx1 d1 d bx')) ⟨env0 0 ds, bx⟩) : TSpM 19 ds bx d bx' := SpM_of mixed c_ref28_Meet r_ref28_Meet (fn := Try.f19) (by kernel_rfl) (by kernel_rfl) comp_ref28_Meet (by kernel_rfl) hn h
/-- (glazier/tree.Tree).Has -/
def c_tree_Tree_Has : C := .seq (.reg false [
  ⟨(some 2), none, .box true (.t 0), none⟩,
  ⟨(some 4), none, .mv false (.c (.bool false)), none⟩] (some [1, 2])) (
.seq (.reg false [
  ⟨(some 8), none, .fld 1 (.t 2), none⟩,
  ⟨(some 9), none, .ld none (.t 8), none⟩,
  ⟨(some 10), none, .mv false (.t 1), none⟩,
  ⟨(some 11), none, .prm false false (.lkp 23 true) [(.t 9), (.t 10)], none⟩,
  ⟨(some 7), none, .mv false (.t 11), none⟩,
  ⟨(some 12), none, .ext (.t 7) 0, none⟩,
  ⟨(some 13), none, .ext (.t 7) 1, none⟩,
  ⟨(some 5), none, .mv false (.t 12), none⟩,
  ⟨(some 6), none, .mv false (.t 13), none⟩] (some [1, 6])) (
.seq (.reg false [
  ⟨(some 14), none, .mv false (.t 6), none⟩,
  ⟨(some 15), none, .mv false (.t 14), none⟩,
  ⟨(some 16), some (15, false), .mv false (.t 1), none⟩,
  ⟨(some 17), some (15, false), .bin .eql .u32 (.t 16) (.c (.int .u32 1)), none⟩,
  ⟨(some 18), none, .pick (.t 15) (.c (.bool true)) (.t 17), none⟩,
  ⟨(some 4), none, .mv false (.t 18), none⟩] (some [4])) (
.ret)))
set_option maxRecDepth 1000000 in
theorem comp_tree_Tree_Has : (Try.f20.body.bind fun code => compC Try.prog Try.f20.ntmps code c_tree_Tree_Has) = some c_tree_Tree_Has.bare := by kernel_rfl
def r_tree_Tree_Has : List R := [.t 4]
theorem spo_tree_Tree_Has {ds : List D} {d : D} (hn : Nat.ble ds.length 19 = true) (h : run TSpC gtab 0 c_tree_Tree_Has (retK r_tree_Tree_Has (· = d)) ⟨env0 0 ds, []⟩) : TSp 20 ds d := Sp_of mixed c_tree_Tree_Has r_tree_Tree_Has (fn := Try.f20) (by kernel_rfl) (by kernel_rfl) comp_tree_Tree_Has (by kernel_rfl) hn h
theorem spm_tree_Tree_Has {ds : List D} {d : D} {bx bx' : List Ent} (hn : Nat.ble ds.length 19 = true) (h : run TSpC gtab (sizeE bx) c_tree_Tree_Has (retG r_tree_Tree_Has (fun d1 bx1 => Rt (sizeE bx) bx1 d1 d bx')) ⟨env0 0 ds, bx⟩) : TSpM 20 ds bx d bx' := SpM_of mixed c_tree_Tree_Has r_tree_Tree_Has (fn := Try.f20) (by kernel_rfl) (by kernel_rfl) comp_tree_Tree_Has (by kernel_rfl) hn h
/-- glazier/glazierref28.Has -/
def c_ref28_Has : C := .seq (.reg false [
  ⟨(some 4), none, .mv false (.c (.bool false)), none⟩] (some [0, 1])) (
.seq (.seq (.reg false [
  ⟨(some 5), none, .mv false (.c (.int .i64 0)), none⟩] (some [0, 1, 5])) (
.blk 0 (
  .loop (
    .seq (.seq (.reg false [
      ⟨(some 6), none, .mv false (.t 5), none⟩,
      ⟨(some 7), none, .mv false (.t 0), none⟩,
      ⟨(some 8), none, .len false (.t 7), none⟩,
      ⟨(some 9), none, .bin .lss .i64 (.t 6) (.t 8), none⟩] (some [0, 1, 5, 9])) (
    .ite (.t 9) (
      .skip) (
      .exit 0))) (
    .seq (.blk 1 (
      .seq (.reg false [
        ⟨(some 12), none, .mv false (.t 0), none⟩,
        ⟨(some 13), none, .mv false (.t 5), none⟩,
        ⟨(some 14), none, .ixs 2 (.t 12) (.t 13), none⟩,
        ⟨(some 15), none, .fld 0 (.t 14), none⟩,
        ⟨(some 16), none, .ld none (.t 15), none⟩,
        ⟨(some 17), none, .mv false (.t 1), none⟩,
        ⟨(some 18), none, .bin .eql .u32 (.t 16) (.t 17), none⟩] (some [0, 1, 5, 18])) (
      .ite (.t 18) (
        .seq (.reg false [
          ⟨(some 4), none, .mv false (.c (.bool true)), none⟩] (some [4])) (
        .ret)) (
        .skip)))) (
    .reg false [
      ⟨(some 10), none, .mv false (.t 5), none⟩,
      ⟨(some 11), none, .bin .add .i64 (.t 10) (.c (.int .i64 1)), none⟩,
      ⟨(some 5), none, .mv false (.t 11), none⟩] (some [0, 1, 5]))))))) (
.seq (.reg false [
  ⟨(some 19), none, .mv false (.t 1), none⟩,
  ⟨(some 20), none, .bin .eql .u32 (.t 19) (.c (.int .u32 1)), none⟩,
  ⟨(some 4), none, .mv false (.t 20), none⟩] (some [4])) (
.ret)))
set_option maxRecDepth 1000000 in
theorem comp_ref28_Has : (Try.f21.body.bind fun code => compC Try.prog Try.f21.ntmps code c_ref28_Has) = some c_ref28_Has.bare := by kernel_rfl
def r_ref28_Has : List R := [.t 4]
theorem spo_ref28_Has {ds : List D} {d : D} (hn : Nat.ble ds.length 21 = true) (h : run TSpC gtab 0 c_ref28_Has (retK r_ref28_Has (· = d)) ⟨env0 0 ds, []⟩) : TSp 21 ds d := Sp_of mixed c_ref28_Has r_ref28_Has (fn := Try.f21) (by kernel_rfl) (by kernel_rfl) comp_ref28_Has (by kernel_rfl) hn h
theorem spm_ref28_Has {ds : List D} {d : D} {bx bx' : List Ent} (hn : Nat.ble ds.length 21 = true) (h : run TSpC gtab (sizeE bx) c_ref28_Has (retG r_ref28_Has (fun d1 bx1 => Rt (sizeE bx) bx1 d1 d bx')) ⟨env0 0 ds, bx⟩) : TSpM 21 ds bx d bx' := SpM_of mixed c_ref28_Has r_ref28_Has (fn := Try.f21) (by kernel_rfl) (by kernel_rfl) comp_ref28_Has (by kernel_rfl) hn h
/-- glazier/glazierref28.Path -/
def c_ref28_Path : C := .seq (.reg false [
  ⟨(some 4), none, .nilS 28 1, none⟩] (some [0, 1])) (
.seq (.seq (.reg false [
  ⟨(some 6), none, .mv false (.t 0), none⟩,
  ⟨(some 7), none, .mv false (.t 1), none⟩,
  ⟨(some 8), none, .call false 21 [(.t 6), (.t 7)], none⟩,
  ⟨(some 9), none, .not (.t 8), none⟩] (some [0, 1, 9])) (
.ite (.t 9) (
  .seq (.reg false [
    ⟨(some 4), none, .nilS 28 1, none⟩] (some [4])) (
  .ret)) (
  .skip))) (
.seq (.reg false [
  ⟨(some 10), none, .mv false (.t 1), none⟩,
  ⟨(some 11), none, .bsl (some false) 28 1 none [(.t 10)], none⟩,
  ⟨(some 5), none, .mv false (.t 11), none⟩] (some [0, 1, 5])) (
.seq (.blk 0 (
  .loop (
    .seq (.seq (.reg false [
      ⟨(some 12), none, .mv false (.t 1), none⟩,
      ⟨(some 13), none, .bin .neq .u32 (.t 12) (.c (.int .u32 1)), none⟩] (some [0, 1, 5, 13])) (
    .ite (.t 13) (
      .skip) (
      .exit 0))) (
    .blk 1 (
      .seq (.reg false [
        ⟨(some 14), none, .mv false (.t 0), none⟩,
        ⟨(some 15), none, .mv false (.t 1), none⟩,
        ⟨(some 16), none, .call false 40 [(.t 14), (.t 15)], none⟩,
        ⟨(some 1), none, .mv false (.t 16), none⟩] (some [0, 1, 5])) (
      .reg false [
        ⟨(some 17), none, .mv false (.t 5), none⟩,
        ⟨(some 18), none, .mv false (.t 1), none⟩,
        ⟨(some 19), none, .bsl none 28 1 none [(.t 18)], none⟩,
        ⟨(some 20), none, .app 28 1 4 (.t 17) (.t 19), none⟩,
        ⟨(some 5), none, .mv false (.t 20), none⟩] (some [0, 1, 5]))))))) (
.seq (.reg false [
  ⟨(some 21), none, .mv false (.t 5), none⟩,
  ⟨(some 4), none, .mv false (.t 21), none⟩] (some [4])) (
.ret)))))
set_option maxRecDepth 1000000 in
theorem comp_ref28_Path : (Try.f22.body.bind fun code => compC Try.prog Try.f22.ntmps code c_ref28_Path) = some c_ref28_Path.bare := by kernel_rfl
def r_ref28_Path : List R := [.t 4]
theorem spo_ref28_Path {ds : List D} {d : D} (hn : Nat.ble ds.length 22 = true) (h : run TSpC gtab 0 c_ref28_Path (retK r_ref28_Path (· = d)) ⟨env0 0 ds, []⟩) : TSp 22 ds d := Sp_of mixed c_ref28_Path r_ref28_Path (fn := Try.f22) (by kernel_rfl) (by kernel_rfl) comp_ref28_Path (by kernel_rfl) hn h
theorem spm_ref28_Path {ds : List D} {d : D} {bx bx' : List Ent} (hn : Nat.ble ds.length 22 = true) (h : run TSpC gtab (sizeE bx) c_ref28_Path (retG r_ref28_Path (fun d1 bx1 => Rt (sizeE bx) bx1 d1 d bx')) ⟨env0 0 ds, bx⟩) : TSpM 22 ds bx d bx' := SpM_of mixed c_ref28_Path r_ref28_Path (fn := Try.f22) (by kernel_rfl) (by kernel_rfl) comp_ref28_Path (by kernel_rfl) hn h
/-- (glazier/tree.Tree).Kids -/
def c_tree_Tree_Kids : C := .seq (.reg false [
  ⟨(some 2), none, .box true (.t 0), none⟩,
  ⟨(some 4), none, .nilS 28 1, none⟩] (some [1, 2])) (
.seq (.reg false [
  ⟨(some 5), none, .fld 0 (.t 2), none⟩,
  ⟨(some 6), none, .ld none (.t 5), none⟩,
  ⟨(some 7), none, .mv false (.t 1), none⟩,
  ⟨(some 8), none, .prm false false (.lkp 22 false) [(.t 6), (.t 7)], none⟩,
  ⟨(some 9), none, .call false 41 [(.t 8)], none⟩,
  ⟨(some 4), none, .mv false (.t 9), none⟩] (some [4])) (
.ret))
set_option maxRecDepth 1000000 in
theorem comp_tree_Tree_Kids : (Try.f23.body.bind fun code => compC Try.prog Try.f23.ntmps code c_tree_Tree_Kids) = some c_tree_Tree_Kids.bare := by kernel_rfl
def r_tree_Tree_Kids : List R := [.t 4]
theorem spo_tree_Tree_Kids {ds : List D} {d : D} (hn : Nat.ble ds.length 10 = true) (h : run TSpC gtab 0 c_tree_Tree_Kids (retK r_tree_Tree_Kids (· = d)) ⟨env0 0 ds, []⟩) : TSp 23 ds d := Sp_of mixed c_tree_Tree_Kids r_tree_Tree_Kids (fn := Try.f23) (by kernel_rfl) (by kernel_rfl) comp_tree_Tree_Kids (by kernel_rfl) hn h
theorem spm_tree_Tree_Kids {ds : List D} {d : D} {bx bx' : List Ent} (hn : Nat.ble ds.length 10 = true) (h : run TSpC gtab (sizeE bx) c_tree_Tree_Kids (retG r_tree_Tree_Kids (fun d1 bx1 => Rt (sizeE bx) bx1 d1 d bx')) ⟨env0 0 ds, bx⟩) : TSpM 23 ds bx d bx' := SpM_of mixed c_tree_Tree_Kids r_tree_Tree_Kids (fn := Try.f23) (by kernel_rfl) (by kernel_rfl) comp_tree_Tree_Kids (by kernel_rfl) hn h
/-- glazier/glazierref28.Kids -/
def c_ref28_Kids : C := .seq (.reg false [
  ⟨(some 4), none, .nilS 28 1, none⟩] (some [0, 1])) (
.seq (.reg false [
  ⟨(some 5), none, .nilS 28 1, none⟩] (some [0, 1, 5])) (
.seq (.seq (.reg false [
  ⟨(some 6), none, .mv false (.c (.int .i64 0)), none⟩] (some [0, 1, 5, 6])) (
.blk 0 (
  .loop (
    .seq (.seq (.reg false [
      ⟨(some 7), none, .mv false (.t 6), none⟩,
      ⟨(some 8), none, .mv false (.t 0), none⟩,
      ⟨(some 9), none, .len false (.t 8), none⟩,
      ⟨(some 10), none, .bin .lss .i64 (.t 7) (.t 9), none⟩] (some [0, 1, 5, 6, 10])) (
    .ite (.t 10) (
      .skip) (
      .exit 0))) (
    .seq (.blk 1 (
      .seq (.reg false [
        ⟨(some 13), none, .mv false (.t 0), none⟩,
        ⟨(some 14), none, .mv false (.t 6), none⟩,
        ⟨(some 15), none, .ixs 2 (.t 13) (.t 14), none⟩,
        ⟨(some 16), none, .fld 1 (.t 15), none⟩,
        ⟨(some 17), none, .ld none (.t 16), none⟩,
        ⟨(some 18), none, .mv false (.t 1), none⟩,
        ⟨(some 19), none, .bin .eql .u32 (.t 17) (.t 18), none⟩] (some [0, 1, 5, 6, 19])) (
      .ite (.t 19) (
        .reg false [
          ⟨(some 20), none, .mv false (.t 5), none⟩,
          ⟨(some 21), none, .mv false (.t 0), none⟩,
          ⟨(some 22), none, .mv false (.t 6), none⟩,
          ⟨(some 23), none, .ixs 2 (.t 21) (.t 22), none⟩,
          ⟨(some 24), none, .fld 0 (.t 23), none⟩,
          ⟨(some 25), none, .ld none (.t 24), none⟩,
          ⟨(some 26), none, .bsl none 28 1 none [(.t 25)], none⟩,
          ⟨(some 27), none, .app 28 1 4 (.t 20) (.t 26), none⟩,
          ⟨(some 5), none, .mv false (.t 27), none⟩] (some [0, 1, 5, 6])) (
        .skip)))) (
    .reg false [
      ⟨(some 11), none, .mv false (.t 6), none⟩,
      ⟨(some 12), none, .bin .add .i64 (.t 11) (.c (.int .i64 1)), none⟩,
      ⟨(some 6), none, .mv false (.t 12), none⟩] (some [0, 1, 5, 6]))))))) (
.seq (.reg false [
  ⟨(some 28), none, .mv false (.t 5), none⟩,
  ⟨(some 4), none, .mv false (.t 28), none⟩] (some [4])) (
.ret))))
set_option maxRecDepth 1000000 in
theorem comp_ref28_Kids : (Try.f24.body.bind fun code => compC Try.prog Try.f24.ntmps code c_ref28_Kids) = some c_ref28_Kids.bare := by kernel_rfl
def r_ref28_Kids : List R := [.t 4]
theorem spo_ref28_Kids {ds : List D} {d : D} (hn : Nat.ble ds.length 29 = true) (h : run TSpC gtab 0 c_ref28_Kids (retK r_ref28_Kids (· = d)) ⟨env0 0 ds, []⟩) : TSp 24 ds d := Sp_of mixed c_ref28_Kids r_ref28_Kids (fn := Try.f24) (by kernel_rfl) (by kernel_rfl) comp_ref28_Kids (by kernel_rfl) hn h
theorem spm_ref28_Kids {ds : List D} {d : D} {bx bx' : List Ent} (hn : Nat.ble ds.length 29 = true) (h : run TSpC gtab (sizeE bx) c_ref28_Kids (retG r_ref28_Kids (fun d1 bx1 => Rt (sizeE bx) bx1 d1 d bx')) ⟨env0 0 ds, bx⟩) : TSpM 24 ds bx d bx' := SpM_of mixed c_ref28_Kids r_ref28_Kids (fn := Try.f24) (by kernel_rfl) (by kernel_rfl) comp_ref28_Kids (by kernel_rfl) hn h
/-- glazier/glazierref28.Below -/
def c_ref28_Below : C := .seq (.reg false [
  ⟨(some 4), none, .nilS 28 1, none⟩] (some [0, 1])) (
.seq (.seq (.reg false [
  ⟨(some 8), none, .mv false (.t 0), none⟩,
  ⟨(some 9), none, .mv false (.t 1), none⟩,
  ⟨(some 10), none, .call false 21 [(.t 8), (.t 9)], none⟩,
  ⟨(some 11), none, .not (.t 10), none⟩] (some [0, 1, 11])) (
.ite (.t 11) (
  .seq (.reg false [
    ⟨(some 4), none, .nilS 28 1, none⟩] (some [4])) (
  .ret)) (
  .skip))) (
.seq (.reg false [
  ⟨(some 12), none, .mv false (.t 1), none⟩,
  ⟨(some 13), none, .bsl (some false) 28 1 none [(.t 12)], none⟩,
  ⟨(some 5), none, .mv false (.t 13), none⟩] (some [0, 1, 5])) (
.seq (.reg false [
  ⟨(some 14), none, .mv false (.t 0), none⟩,
  ⟨(some 15), none, .mv false (.t 1), none⟩,
  ⟨(some 16), none, .call false 24 [(.t 14), (.t 15)], none⟩,
  ⟨(some 6), none, .mv false (.t 16), none⟩] (some [0, 5, 6])) (
.seq (.seq (.reg false [
  ⟨(some 7), none, .mv false (.c (.int .i64 0)), none⟩] (some [0, 5, 6, 7])) (
.blk 0 (
  .loop (
    .seq (.seq (.reg false [
      ⟨(some 17), none, .mv false (.t 7), none⟩,
      ⟨(some 18), none, .mv false (.t 6), none⟩,
      ⟨(some 19), none, .len false (.t 18), none⟩,
      ⟨(some 20), none, .bin .lss .i64 (.t 17) (.t 19), none⟩] (some [0, 5, 6, 7, 20])) (
    .ite (.t 20) (
      .skip) (
      .exit 0))) (
    .seq (.blk 1 (
      .reg false [
        ⟨(some 23), none, .mv false (.t 5), none⟩,
        ⟨(some 24), none, .mv false (.t 0), none⟩,
        ⟨(some 25), none, .mv false (.t 6), none⟩,
        ⟨(some 26), none, .mv false (.t 7), none⟩,
        ⟨(some 27), none, .ixs 1 (.t 25) (.t 26), none⟩,
        ⟨(some 28), none, .ld none (.t 27), none⟩,
        ⟨(some 29), none, .call false 25 [(.t 24), (.t 28)], none⟩,
        ⟨(some 30), none, .app 28 1 4 (.t 23) (.t 29), none⟩,
        ⟨(some 5), none, .mv false (.t 30), none⟩] (some [0, 5, 6, 7]))) (
    .reg false [
      ⟨(some 21), none, .mv false (.t 7), none⟩,
      ⟨(some 22), none, .bin .add .i64 (.t 21) (.c (.int .i64 1)), none⟩,
      ⟨(some 7), none, .mv false (.t 22), none⟩] (some [0, 5, 6, 7]))))))) (
.seq (.reg false [
  ⟨(some 31), none, .mv false (.t 5), none⟩,
  ⟨(some 4), none, .mv false (.t 31), none⟩] (some [4])) (
.ret))))))
set_option maxRecDepth 1000000 in
theorem comp_ref28_Below : (Try.f25.body.bind fun code => compC Try.prog Try.f25.ntmps code c_ref28_Below) = some c_ref28_Below.bare := by kernel_rfl
def r_ref28_Below : List R := [.t 4]
theorem spo_ref28_Below {ds : List D} {d : D} (hn : Nat.ble ds.length 32 = true) (h : run TSpC gtab 0 c_ref28_Below (retK r_ref28_Below (· = d)) ⟨env0 0 ds, []⟩) : TSp 25 ds d := Sp_of mixed c_ref28_Below r_ref28_Below (fn := Try.f25) (by kernel_rfl) (by kernel_rfl) comp_ref28_Below (by kernel_rfl) hn h
theorem spm_ref28_Below {ds : List D} {d : D} {bx bx' : List Ent} (hn : Nat.ble ds.length 32 = true) (h : run TSpC gtab (sizeE bx) c_ref28_Below (retG r_ref28_Below (fun d1 bx1 => Rt (sizeE bx) bx1 d1 d bx')) ⟨env0 0 ds, bx⟩) : TSpM 25 ds bx d bx' := SpM_of mixed c_ref28_Below r_ref28_Below (fn := Try.f25) (by kernel_rfl) (by kernel_rfl) comp_ref28_Below (by kernel_rfl) hn h
/-- (glazier/tree.Tree).Parent -/
def c_tree_Tree_Parent : C := .seq (.reg false [
  ⟨(some 2), none, .box true (.t 0), none⟩,
  ⟨(some 4), none, .mv false (.c (.int .u32 0)), none⟩,
  ⟨(some 5), none, .mv false (.c (.bool false)), none⟩] (some [1, 2])) (
.seq (.reg false [
  ⟨(some 9), none, .fld 1 (.t 2), none⟩,
  ⟨(some 10), none, .ld none (.t 9), none⟩,
  ⟨(some 11), none, .mv false (.t 1), none⟩,
  ⟨(some 12), none, .prm false false (.lkp 23 true) [(.t 10), (.t 11)], none⟩,
  ⟨(some 8), none, .mv false (.t 12), none⟩,
  ⟨(some 13), none, .ext (.t 8) 0, none⟩,
  ⟨(some 14), none, .ext (.t 8) 1, none⟩,
  ⟨(some 6), none, .mv false (.t 13), none⟩,
  ⟨(some 7), none, .mv false (.t 14), none⟩] (some [6, 7])) (
.seq (.reg false [
  ⟨(some 15), none, .mv false (.t 6), none⟩,
  ⟨(some 16), none, .mv false (.t 7), none⟩,
  ⟨(some 4), none, .mv false (.t 15), none⟩,
  ⟨(some 5), none, .mv false (.t 16), none⟩] (some [4, 5])) (
.ret)))
set_option maxRecDepth 1000000 in
theorem comp_tree_Tree_Parent : (Try.f26.body.bind fun code => compC Try.prog Try.f26.ntmps code c_tree_Tree_Parent) = some c_tree_Tree_Parent.bare := by kernel_rfl
def r_tree_Tree_Parent : List R := [.t 4, .t 5]
theorem spo_tree_Tree_Parent {ds : List D} {d : D} (hn : Nat.ble ds.length 17 = true) (h : run TSpC gtab 0 c_tree_Tree_Parent (retK r_tree_Tree_Parent (· = d)) ⟨env0 0 ds, []⟩) : TSp 26 ds d := Sp_of mixed c_tree_Tree_Parent r_tree_Tree_Parent (fn := Try.f26) (by kernel_rfl) (by kernel_rfl) comp_tree_Tree_Parent (by kernel_rfl) hn h
theorem spm_tree_Tree_Parent {ds : List D} {d : D} {bx bx' : List Ent} (hn : Nat.ble ds.length 17 = true) (h : run TSpC gtab (sizeE bx) c_tree_Tree_Parent (retG r_tree_Tree_Parent (fun d1 bx1 => Rt (sizeE bx) bx1 d1 d bx')) ⟨env0 0 ds, bx⟩) : TSpM 26 ds bx d bx' := SpM_of mixed c_tree_Tree_Parent r_tree_Tree_Parent (fn := Try.f26) (by kernel_rfl) (by kernel_rfl) comp_tree_Tree_Parent (by kernel_rfl) hn h
/-- (glazier/tree.Tree).Place -/
def c_tree_Tree_Place : C := .seq (.reg false [
  ⟨(some 3), none, .box true (.t 0), none⟩,
  ⟨(some 6), none, .alloc [(.mp [] []), (.mp [] [])], none⟩,
  ⟨(some 7), none, .mv false (.c (.int .i64 0)), none⟩] (some [1, 2, 3, 6])) (
.seq (.seq (.reg false [
  ⟨(some 11), none, .ld (some 2) (.t 3), none⟩,
  ⟨(some 12), none, .mv false (.t 1), none⟩,
  ⟨(some 13), none, .call false 36 [(.t 11), (.t 12)], none⟩,
  ⟨(some 8), none, .mv false (.t 13), none⟩] (some [1, 2, 3, 6, 8])) (
.seq (.reg false [
  ⟨(some 14), none, .mv false (.t 8), none⟩,
  ⟨(some 15), none, .bin .neq .i64 (.t 14) (.c (.int .i64 0)), none⟩] (some [1, 2, 3, 6, 8, 15])) (
.ite (.t 15) (
  .seq (.reg false [
    ⟨(some 16), none, .ld (some 2) (.t 3), none⟩,
    ⟨(some 17), none, .mv false (.t 8), none⟩,
    ⟨none, none, .st (some 2) (.t 6) (.t 16), none⟩,
    ⟨(some 7), none, .mv false (.t 17), none⟩] (some [6, 7])) (
  .ret)) (
  .skip)))) (
.seq (.reg false [
  ⟨(some 18), none, .fld 1 (.t 3), none⟩,
  ⟨(some 19), none, .ld none (.t 18), none⟩,
  ⟨(some 20), none, .mv false (.t 1), none⟩,
  ⟨(some 21), none, .prm false false (.lkp 23 false) [(.t 19), (.t 20)], none⟩,
  ⟨(some 9), none, .mv false (.t 21), none⟩] (some [1, 2, 3, 6, 9])) (
.seq (.seq (.reg false [
  ⟨(some 22), none, .mv false (.t 2), none⟩,
  ⟨(some 23), none, .bin .lss .i64 (.t 22) (.c (.int .i64 0)), none⟩,
  ⟨(some 24), none, .mv false (.t 23), none⟩,
  ⟨(some 25), some (24, false), .mv false (.t 2), none⟩,
  ⟨(some 26), some (24, false), .fld 0 (.t 3), none⟩,
  ⟨(some 27), some (24, false), .ld none (.t 26), none⟩,
  ⟨(some 28), some (24, false), .mv false (.t 9), none⟩,
  ⟨(some 29), some (24, false), .prm false false (.lkp 22 false) [(.t 27), (.t 28)], none⟩,
  ⟨(some 30), some (24, false), .len false (.t 29), none⟩,
  ⟨(some 31), some (24, false), .bin .geq .i64 (.t 25) (.t 30), none⟩,
  ⟨(some 32), none, .pick (.t 24) (.c (.bool true)) (.t 31), none⟩] (some [1, 2, 3, 6, 9, 32])) (
.ite (.t 32) (
  .seq (.reg false [
    ⟨(some 33), none, .ld (some 2) (.t 3), none⟩,
    ⟨none, none, .st (some 2) (.t 6) (.t 33), none⟩,
    ⟨(some 7), none, .mv false (.c (.int .i64 1)), none⟩] (some [6, 7])) (
  .ret)) (
  .skip))) (
.seq (.reg false [
  ⟨(some 34), none, .ld (some 2) (.t 3), none⟩,
  ⟨(some 35), none, .call true 33 [(.t 34)], none⟩,
  ⟨(some 10), none, .alloc [(.mp [] []), (.mp [] [])], none⟩,
  ⟨none, none, .st (some 2) (.t 10) (.t 35), none⟩] (some [1, 2, 6, 9, 10])) (
.seq (.reg false [
  ⟨(some 36), none, .ld (some 2) (.t 10), none⟩,
  ⟨(some 37), none, .mv false (.t 1), none⟩,
  ⟨(some 38), none, .call true 38 [(.t 36), (.t 37)], none⟩] (some [1, 2, 6, 9, 10])) (
.seq (.reg true [
  ⟨(some 39), none, .fld 0 (.t 10), none⟩,
  ⟨(some 40), none, .ld none (.t 39), (some [6])⟩,
  ⟨(some 41), none, .mv false (.t 9), none⟩,
  ⟨(some 42), none, .fld 0 (.t 10), none⟩,
  ⟨(some 43), none, .ld none (.t 42), none⟩,
  ⟨(some 44), none, .mv false (.t 9), none⟩,
  ⟨(some 45), none, .prm false false (.lkp 22 false) [(.t 43), (.t 44)], none⟩,
  ⟨(some 46), none, .mv false (.t 2), none⟩,
  ⟨(some 47), none, .mv false (.t 1), none⟩,
  ⟨(some 48), none, .bsl none 28 1 none [(.t 47)], none⟩,
  ⟨(some 49), none, .callK [3] 47 [(.t 45), (.t 46), (.t 48)], none⟩,
  ⟨none, none, .prm false true (.upd 22) [(.t 40), (.t 41), (.t 49)], none⟩] (some [6, 10])) (
.seq (.reg false [
  ⟨(some 50), none, .ld (some 2) (.t 10), none⟩,
  ⟨none, none, .st (some 2) (.t 6) (.t 50), none⟩,
  ⟨(some 7), none, .mv false (.c (.int .i64 0)), none⟩] (some [6, 7])) (
.ret))))))))
set_option maxRecDepth 1000000 in
theorem comp_tree_Tree_Place : (Try.f31.body.bind fun code => compC Try.prog Try.f31.ntmps code c_tree_Tree_Place) = some c_tree_Tree_Place.bare := by kernel_rfl
def r_tree_Tree_Place : List R := [.cell 6 (some 2), .t 7]
theorem spo_tree_Tree_Place {ds : List D} {d : D} (hn : Nat.ble ds.length 51 = true) (h : run TSpC gtab 0 c_tree_Tree_Place (retK r_tree_Tree_Place (· = d)) ⟨env0 0 ds, []⟩) : TSp 31 ds d := Sp_of mixed c_tree_Tree_Place r_tree_Tree_Place (fn := Try.f31) (by kernel_rfl) (by kernel_rfl) comp_tree_Tree_Place (by kernel_rfl) hn h
theorem spm_tree_Tree_Place {ds : List D} {d : D} {bx bx' : List Ent} (hn : Nat.ble ds.length 51 = true) (h : run TSpC gtab (sizeE bx) c_tree_Tree_Place (retG r_tree_Tree_Place (fun d1 bx1 => Rt (sizeE bx) bx1 d1 d bx')) ⟨env0 0 ds, bx⟩) : TSpM 31 ds bx d bx' := SpM_of mixed c_tree_Tree_Place r_tree_Tree_Place (fn := Try.f31) (by kernel_rfl) (by kernel_rfl) comp_tree_Tree_Place (by kernel_rfl) hn h
/-- (glazier/tree.Tree).Remove -/
def c_tree_Tree_Remove : C := .seq (.reg false [
  ⟨(some 2), none, .box true (.t 0), none⟩,
  ⟨(some 4), none, .alloc [(.mp [] []), (.mp [] [])], none⟩,
  ⟨(some 5), none, .nilS 28 1, none⟩,
  ⟨(some 6), none, .mv false (.c (.int .i64 0)), none⟩] (some [1, 2, 4])) (
.seq (.seq (.reg false [
  ⟨(some 13), none, .ld (some 2) (.t 2), none⟩,
  ⟨(some 14), none, .mv false (.t 1), none⟩,
  ⟨(some 15), none, .call false 36 [(.t 13), (.t 14)], none⟩,
  ⟨(some 7), none, .mv false (.t 15), none⟩] (some [1, 2, 4, 7])) (
.seq (.reg false [
  ⟨(some 16), none, .mv false (.t 7), none⟩,
  ⟨(some 17), none, .bin .neq .i64 (.t 16) (.c (.int .i64 0)), none⟩] (some [1, 2, 4, 7, 17])) (
.ite (.t 17) (
  .seq (.reg false [
    ⟨(some 18), none, .ld (some 2) (.t 2), none⟩,
    ⟨(some 19), none, .mv false (.t 7), none⟩,
    ⟨none, none, .st (some 2) (.t 4) (.t 18), (some [1])⟩,
    ⟨(some 5), none, .nilS 28 1, none⟩,
    ⟨(some 6), none, .mv false (.t 19), none⟩] (some [4, 5, 6])) (
  .ret)) (
  .skip)))) (
.seq (.reg false [
  ⟨(some 8), none, .alloc [(.bsl 28 0 1 0)], none⟩] (some [1, 2, 4, 8])) (
.seq (.reg false [
  ⟨(some 9), none, .alloc [.nil], none⟩] (some [1, 2, 4, 8, 9])) (
.seq (.reg false [
  ⟨(some 20), none, .clo 46 [(.t 2), (.t 9), (.t 8)], none⟩,
  ⟨none, none, .st none (.t 9) (.t 20), none⟩] (some [1, 2, 4, 8, 9])) (
.seq (.reg false [
  ⟨(some 21), none, .ld none (.t 9), none⟩,
  ⟨(some 22), none, .mv false (.t 1), none⟩,
  ⟨(some 23), none, .callv true (.t 21) [(.t 22)], none⟩] (some [1, 2, 4, 8])) (
.seq (.reg false [
  ⟨(some 24), none, .ld (some 2) (.t 2), none⟩,
  ⟨(some 25), none, .call true 33 [(.t 24)], none⟩,
  ⟨(some 10), none, .alloc [(.mp [] []), (.mp [] [])], none⟩,
  ⟨none, none, .st (some 2) (.t 10) (.t 25), none⟩] (some [1, 4, 8, 10])) (
.seq (.reg false [
  ⟨(some 26), none, .ld (some 2) (.t 10), none⟩,
  ⟨(some 27), none, .mv false (.t 1), none⟩,
  ⟨(some 28), none, .call true 38 [(.t 26), (.t 27)], none⟩] (some [4, 8, 10])) (
.seq (.seq (.reg false [
  ⟨(some 29), none, .ld none (.t 8), none⟩,
  ⟨(some 30), none, .len false (.t 29), none⟩,
  ⟨(some 31), none, .mv false (.c (.int .i64 0)), none⟩] (some [4, 8, 10, 29, 30, 31])) (
.blk 0 (
  .loop (
    .seq (.reg false [
      ⟨(some 32), none, .bin .lss .i64 (.t 31) (.t 30), none⟩] (some [4, 8, 10, 29, 30, 31, 32])) (
    .seq (.ite (.t 32) (
      .skip) (
      .exit 0)) (
    .seq (.blk 1 (
      .seq (.reg false [
        ⟨(some 33), none, .ixs 1 (.t 29) (.t 31), none⟩,
        ⟨(some 34), none, .ld none (.t 33), none⟩,
        ⟨(some 12), none, .mv false (.t 34), none⟩] (some [4, 8, 10, 12, 29, 30, 31])) (
      .seq (.reg false [
        ⟨(some 35), none, .fld 0 (.t 10), none⟩,
        ⟨(some 36), none, .ld none (.t 35), none⟩,
        ⟨(some 37), none, .mv false (.t 12), none⟩,
        ⟨none, none, .prm false true (.delm 22 28) [(.t 36), (.t 37)], none⟩] (some [4, 8, 10, 12, 29, 30, 31])) (
      .reg false [
        ⟨(some 38), none, .fld 1 (.t 10), none⟩,
        ⟨(some 39), none, .ld none (.t 38), none⟩,
        ⟨(some 40), none, .mv false (.t 12), none⟩,
        ⟨none, none, .prm false true (.delm 23 28) [(.t 39), (.t 40)], none⟩] (some [4, 8, 10, 29, 30, 31]))))) (
    .reg false [
      ⟨(some 41), none, .bin .add .i64 (.t 31) (.c (.int .i64 1)), none⟩,
      ⟨(some 31), none, .mv false (.t 41), none⟩] (some [4, 8, 10, 29, 30, 31])))))))) (
.seq (.reg true [
  ⟨(some 42), none, .ld (some 2) (.t 10), none⟩,
  ⟨(some 43), none, .ld none (.t 8), (some [3])⟩,
  ⟨none, none, .st (some 2) (.t 4) (.t 42), (some [1])⟩,
  ⟨(some 5), none, .mv false (.t 43), none⟩,
  ⟨(some 6), none, .mv false (.c (.int .i64 0)), none⟩] (some [4, 5, 6])) (
.ret))))))))))
set_option maxRecDepth 1000000 in
theorem comp_tree_Tree_Remove : (Try.f30.body.bind fun code => compC Try.prog Try.f30.ntmps code c_tree_Tree_Remove) = some c_tree_Tree_Remove.bare := by kernel_rfl
def r_tree_Tree_Remove : List R := [.cell 4 (some 2), .t 5, .t 6]
theorem spo_tree_Tree_Remove {ds : List D} {d : D} (hn : Nat.ble ds.length 44 = true) (h : run TSpC gtab 0 c_tree_Tree_Remove (retK r_tree_Tree_Remove (· = d)) ⟨env0 0 ds, []⟩) : TSp 30 ds d := Sp_of mixed c_tree_Tree_Remove r_tree_Tree_Remove (fn := Try.f30) (by kernel_rfl) (by kernel_rfl) comp_tree_Tree_Remove (by kernel_rfl) hn h
theorem spm_tree_Tree_Remove {ds : List D} {d : D} {bx bx' : List Ent} (hn : Nat.ble ds.length 44 = true) (h : run TSpC gtab (sizeE bx) c_tree_Tree_Remove (retG r_tree_Tree_Remove (fun d1 bx1 => Rt (sizeE bx) bx1 d1 d bx')) ⟨env0 0 ds, bx⟩) : TSpM 30 ds bx d bx' := SpM_of mixed c_tree_Tree_Remove r_tree_Tree_Remove (fn := Try.f30) (by kernel_rfl) (by kernel_rfl) comp_tree_Tree_Remove (by kernel_rfl) hn h
/-- glazier/ident.Check -/
def c_ident_Check : C := .seq (.reg false [
  ⟨(some 2), none, .mv false (.c (.int .i64 0)), none⟩] (some [0])) (
.seq (.seq (.reg false [
  ⟨(some 5), none, .mv false (.t 0), none⟩,
  ⟨(some 6), none, .bin .eql .u32 (.t 5) (.c (.int .u32 0)), none⟩] (some [0, 6])) (
.ite (.t 6) (
  .seq (.reg false [
    ⟨(some 2), none, .mv false (.c (.int .i64 6)), none⟩] (some [2])) (
  .ret)) (
  .skip))) (
.seq (.seq (.reg false [
  ⟨(some 8), none, .mv false (.t 0), none⟩,
  ⟨(some 9), none, .call false 48 [(.t 8)], none⟩,
  ⟨(some 7), none, .mv false (.t 9), none⟩,
  ⟨(some 10), none, .ext (.t 7) 0, none⟩,
  ⟨(some 11), none, .ext (.t 7) 1, none⟩,
  ⟨(some 3), none, .mv false (.t 10), none⟩,
  ⟨(some 4), none, .mv false (.t 11), none⟩] (some [4])) (
.seq (.reg false [
  ⟨(some 12), none, .mv false (.t 4), none⟩,
  ⟨(some 13), none, .not (.t 12), none⟩] (some [13])) (
.ite (.t 13) (
  .seq (.reg false [
    ⟨(some 2), none, .mv false (.c (.int .i64 1)), none⟩] (some [2])) (
  .ret)) (
  .skip)))) (
.seq (.reg false [
  ⟨(some 2), none, .mv false (.c (.int .i64 0)), none⟩] (some [2])) (
.ret))))
set_option maxRecDepth 1000000 in
theorem comp_ident_Check : (Try.f32.body.bind fun code => compC Try.prog Try.f32.ntmps code c_ident_Check) = some c_ident_Check.bare := by kernel_rfl
def r_ident_Check : List R := [.t 2]
theorem spo_ident_Check {ds : List D} {d : D} (hn : Nat.ble ds.length 14 = true) (h : run TSpC gtab 0 c_ident_Check (retK r_ident_Check (· = d)) ⟨env0 0 ds, []⟩) : TSp 32 ds d := Sp_of mixed c_ident_Check r_ident_Check (fn := Try.f32) (by kernel_rfl) (by kernel_rfl) comp_ident_Check (by kernel_rfl) hn h
theorem spm_ident_Check {ds : List D} {d : D} {bx bx' : List Ent} (hn : Nat.ble ds.length 14 = true) (h : run TSpC gtab (sizeE bx) c_ident_Check (retG r_ident_Check (fun d1 bx1 => Rt (sizeE bx) bx1 d1 d bx')) ⟨env0 0 ds, bx⟩) : TSpM 32 ds bx d bx' := SpM_of mixed c_ident_Check r_ident_Check (fn := Try.f32) (by kernel_rfl) (by kernel_rfl) comp_ident_Check (by kernel_rfl) hn h
/-- (glazier/tree.Tree).twin -/
def c_tree_Tree_twin : C := .seq (.reg false [
  ⟨(some 1), none, .box true (.t 0), none⟩,
  ⟨(some 2), none, .alloc [(.mp [] []), (.mp [] [])], none⟩] (some [1, 2])) (
.seq (.reg false [
  ⟨(some 6), none, .prm false true (.mkm 22) [], none⟩,
  ⟨(some 7), none, .prm false true (.mkm 23) [], none⟩,
  ⟨(some 8), none, .bld [(.mp [] []), (.mp [] [])] [(0, none, (.t 6)), (1, none, (.t 7))], none⟩,
  ⟨(some 3), none, .alloc [(.mp [] []), (.mp [] [])], none⟩,
  ⟨none, none, .st (some 2) (.t 3) (.t 8), none⟩] (some [1, 2, 3])) (
.seq (.reg false [
  ⟨(some 9), none, .fld 1 (.t 3), none⟩,
  ⟨(some 10), none, .ld none (.t 9), none⟩,
  ⟨(some 11), none, .fld 1 (.t 1), none⟩,
  ⟨(some 12), none, .ld none (.t 11), none⟩,
  ⟨(some 13), none, .call true 49 [(.t 10), (.t 12)], none⟩] (some [1, 2, 3])) (
.seq (.seq (.reg false [
  ⟨(some 14), none, .fld 0 (.t 1), none⟩,
  ⟨(some 15), none, .ld none (.t 14), none⟩,
  ⟨(some 16), none, .prm false true (.rng 22) [(.t 15)], none⟩] (some [2, 3, 16])) (
.blk 0 (
  .loop (
    .seq (.reg false [
      ⟨(some 17), none, .prm true false (.nxt false) [(.t 16)], none⟩,
      ⟨(some 18), none, .ext (.t 17) 0, none⟩] (some [2, 3, 16, 18])) (
    .seq (.ite (.t 18) (
      .skip) (
      .exit 0)) (
    .blk 1 (
      .seq (.reg false [
        ⟨(some 19), none, .prm false false .ent [(.t 16)], none⟩,
        ⟨(some 20), none, .ext (.t 19) 0, none⟩,
        ⟨(some 21), none, .ext (.t 19) 1, none⟩,
        ⟨(some 4), none, .mv false (.t 20), none⟩,
        ⟨(some 5), none, .mv false (.t 21), none⟩] (some [2, 3, 4, 5, 16])) (
      .reg true [
        ⟨(some 22), none, .fld 0 (.t 3), none⟩,
        ⟨(some 23), none, .ld none (.t 22), (some [5, 6])⟩,
        ⟨(some 24), none, .mv false (.t 4), none⟩,
        ⟨(some 25), none, .mv false (.t 5), none⟩,
        ⟨(some 26), none, .callK [7, 8] 41 [(.t 25)], none⟩,
        ⟨none, none, .prm false true (.upd 22) [(.t 23), (.t 24), (.t 26)], none⟩] (some [2, 3, 16]))))))))) (
.seq (.reg false [
  ⟨(some 27), none, .ld (some 2) (.t 3), none⟩,
  ⟨none, none, .st (some 2) (.t 2) (.t 27), none⟩] (some [2])) (
.ret)))))
set_option maxRecDepth 1000000 in
theorem comp_tree_Tree_twin : (Try.f33.body.bind fun code => compC Try.prog Try.f33.ntmps code c_tree_Tree_twin) = some c_tree_Tree_twin.bare := by kernel_rfl
def r_tree_Tree_twin : List R := [.cell 2 (some 2)]
theorem spo_tree_Tree_twin {ds : List D} {d : D} (hn : Nat.ble ds.length 28 = true) (h : run TSpC gtab 0 c_tree_Tree_twin (retK r_tree_Tree_twin (· = d)) ⟨env0 0 ds, []⟩) : TSp 33 ds d := Sp_of mixed c_tree_Tree_twin r_tree_Tree_twin (fn := Try.f33) (by kernel_rfl) (by kernel_rfl) comp_tree_Tree_twin (by kernel_rfl) hn h
theorem spm_tree_Tree_twin {ds : List D} {d : D} {bx bx' : List Ent} (hn : Nat.ble ds.length 28 = true) (h : run TSpC gtab (sizeE bx) c_tree_Tree_twin (retG r_tree_Tree_twin (fun d1 bx1 => Rt (sizeE bx) bx1 d1 d bx')) ⟨env0 0 ds, bx⟩) : TSpM 33 ds bx d bx' := SpM_of mixed c_tree_Tree_twin r_tree_Tree_twin (fn := Try.f33) (by kernel_rfl) (by kernel_rfl) comp_tree_Tree_twin (by kernel_rfl) hn h
/-- (glazier/tree.Tree).put -/
def c_tree_Tree_put : C := .seq (.reg false [
  ⟨(some 3), none, .box true (.t 0), none⟩] (some [1, 2, 3])) (
.seq (.reg true [
  ⟨(some 6), none, .fld 0 (.t 3), none⟩,
  ⟨(some 7), none, .ld none (.t 6), (some [3])⟩,
  ⟨(some 8), none, .mv false (.t 2), none⟩,
  ⟨(some 9), none, .fld 0 (.t 3), none⟩,
  ⟨(some 10), none, .ld none (.t 9), (some [3])⟩,
  ⟨(some 11), none, .mv false (.t 2), none⟩,
  ⟨(some 12), none, .prm false false (.lkp 22 false) [(.t 10), (.t 11)], none⟩,
  ⟨(some 13), none, .mv false (.t 1), none⟩,
  ⟨(some 14), none, .bsl none 28 1 none [(.t 13)], none⟩,
  ⟨(some 15), none, .app 28 1 4 (.t 12) (.t 14), (some [1])⟩,
  ⟨none, none, .prm false true (.upd 22) [(.t 7), (.t 8), (.t 15)], none⟩] (some [1, 2, 3])) (
.reg false [
  ⟨(some 16), none, .fld 1 (.t 3), none⟩,
  ⟨(some 17), none, .ld none (.t 16), none⟩,
  ⟨(some 18), none, .mv false (.t 1), none⟩,
  ⟨(some 19), none, .mv false (.t 2), none⟩,
  ⟨none, none, .prm false true (.upd 23) [(.t 17), (.t 18), (.t 19)], none⟩] (some [])))
set_option maxRecDepth 1000000 in
theorem comp_tree_Tree_put : (Try.f34.body.bind fun code => compC Try.prog Try.f34.ntmps code c_tree_Tree_put) = some c_tree_Tree_put.bare := by kernel_rfl
def r_tree_Tree_put : List R := []
theorem spo_tree_Tree_put {ds : List D} {d : D} (hn : Nat.ble ds.length 20 = true) (h : run TSpC gtab 0 c_tree_Tree_put (retK r_tree_Tree_put (· = d)) ⟨env0 0 ds, []⟩) : TSp 34 ds d := Sp_of mixed c_tree_Tree_put r_tree_Tree_put (fn := Try.f34) (by kernel_rfl) (by kernel_rfl) comp_tree_Tree_put (by kernel_rfl) hn h
theorem spm_tree_Tree_put {ds : List D} {d : D} {bx bx' : List Ent} (hn : Nat.ble ds.length 20 = true) (h : run TSpC gtab (sizeE bx) c_tree_Tree_put (retG r_tree_Tree_put (fun d1 bx1 => Rt (sizeE bx) bx1 d1 d bx')) ⟨env0 0 ds, bx⟩) : TSpM 34 ds bx d bx' := SpM_of mixed c_tree_Tree_put r_tree_Tree_put (fn := Try.f34) (by kernel_rfl) (by kernel_rfl) comp_tree_Tree_put (by kernel_rfl) hn h
/-- (glazier/tree.Tree).Below$1 -/
def c_tree_Tree_Below_1 : C := .seq (.reg false [
  ⟨(some 7), none, .ld none (.t 1), none⟩,
  ⟨(some 8), none, .mv false (.t 0), none⟩,
  ⟨(some 9), none, .bsl none 28 1 none [(.t 8)], none⟩,
  ⟨(some 10), none, .app 28 1 4 (.t 7) (.t 9), none⟩,
  ⟨none, none, .st none (.t 1) (.t 10), none⟩] (some [0, 2, 3])) (
.seq (.reg false [
  ⟨(some 11), none, .fld 0 (.t 2), none⟩,
  ⟨(some 12), none, .ld none (.t 11), none⟩,
  ⟨(some 13), none, .mv false (.t 0), none⟩,
  ⟨(some 14), none, .prm false false (.lkp 22 false) [(.t 12), (.t 13)], none⟩,
  ⟨(some 15), none, .len false (.t 14), none⟩,
  ⟨(some 16), none, .mv false (.c (.int .i64 0)), none⟩] (some [3, 14, 15, 16])) (
.blk 0 (
  .loop (
    .seq (.reg false [
      ⟨(some 17), none, .bin .lss .i64 (.t 16) (.t 15), none⟩] (some [3, 14, 15, 16, 17])) (
    .seq (.ite (.t 17) (
      .skip) (
      .exit 0)) (
    .seq (.blk 1 (
      .seq (.reg false [
        ⟨(some 18), none, .ixs 1 (.t 14) (.t 16), none⟩,
        ⟨(some 19), none, .ld none (.t 18), none⟩,
        ⟨(some 6), none, .mv false (.t 19), none⟩] (some [3, 6, 14, 15, 16])) (
      .reg false [
        ⟨(some 20), none, .ld none (.t 3), none⟩,
        ⟨(some 21), none, .mv false (.t 6), none⟩,
        ⟨(some 22), none, .callv true (.t 20) [(.t 21)], none⟩] (some [3, 14, 15, 16])))) (
    .reg false [
      ⟨(some 23), none, .bin .add .i64 (.t 16) (.c (.int .i64 1)), none⟩,
      ⟨(some 16), none, .mv false (.t 23), none⟩] (some [3, 14, 15, 16]))))))))
set_option maxRecDepth 1000000 in
theorem comp_tree_Tree_Below_1 : (Try.f35.body.bind fun code => compC Try.prog Try.f35.ntmps code c_tree_Tree_Below_1) = some c_tree_Tree_Below_1.bare := by kernel_rfl
def r_tree_Tree_Below_1 : List R := []
theorem spo_tree_Tree_Below_1 {ds : List D} {d : D} (hn : Nat.ble ds.length 24 = true) (h : run TSpC gtab 0 c_tree_Tree_Below_1 (retK r_tree_Tree_Below_1 (· = d)) ⟨env0 0 ds, []⟩) : TSp 35 ds d := Sp_of mixed c_tree_Tree_Below_1 r_tree_Tree_Below_1 (fn := Try.f35) (by kernel_rfl) (by kernel_rfl) comp_tree_Tree_Below_1 (by kernel_rfl) hn h
theorem spm_tree_Tree_Below_1 {ds : List D} {d : D} {bx bx' : List Ent} (hn : Nat.ble ds.length 24 = true) (h : run TSpC gtab (sizeE bx) c_tree_Tree_Below_1 (retG r_tree_Tree_Below_1 (fun d1 bx1 => Rt (sizeE bx) bx1 d1 d bx')) ⟨env0 0 ds, bx⟩) : TSpM 35 ds bx d bx' := SpM_of mixed c_tree_Tree_Below_1 r_tree_Tree_Below_1 (fn := Try.f35) (by kernel_rfl) (by kernel_rfl) comp_tree_Tree_Below_1 (by kernel_rfl) hn h
/-- (glazier/tree.Tree).other -/
def c_tree_Tree_other : C := .seq (.reg false [
  ⟨(some 2), none, .box true (.t 0), none⟩,
  ⟨(some 4), none, .mv false (.c (.int .i64 0)), none⟩] (some [1, 2])) (
.seq (.blk 0 (
  .seq (.reg false [
    ⟨(some 6), none, .mv false (.t 1), none⟩,
    ⟨(some 7), none, .bin .eql .u32 (.t 6) (.c (.int .u32 1)), none⟩,
    ⟨(some 5), none, .mv false (.t 7), none⟩] (some [1, 2, 5])) (
  .ite (.t 5) (
    .seq (.reg false [
      ⟨(some 4), none, .mv false (.c (.int .i64 23)), none⟩] (some [4])) (
    .ret)) (
    .seq (.reg false [
      ⟨(some 9), none, .ld (some 2) (.t 2), none⟩,
      ⟨(some 10), none, .mv false (.t 1), none⟩,
      ⟨(some 11), none, .call false 20 [(.t 9), (.t 10)], none⟩,
      ⟨(some 12), none, .not (.t 11), none⟩,
      ⟨(some 8), none, .mv false (.t 12), none⟩] (some [8])) (
    .ite (.t 8) (
      .seq (.reg false [
        ⟨(some 4), none, .mv false (.c (.int .i64 6)), none⟩] (some [4])) (
      .ret)) (
      .skip)))))) (
.seq (.reg false [
  ⟨(some 4), none, .mv false (.c (.int .i64 0)), none⟩] (some [4])) (
.ret)))
set_option maxRecDepth 1000000 in
theorem comp_tree_Tree_other : (Try.f36.body.bind fun code => compC Try.prog Try.f36.ntmps code c_tree_Tree_other) = some c_tree_Tree_other.bare := by kernel_rfl
def r_tree_Tree_other : List R := [.t 4]
theorem spo_tree_Tree_other {ds : List D} {d : D} (hn : Nat.ble ds.length 13 = true) (h : run TSpC gtab 0 c_tree_Tree_other (retK r_tree_Tree_other (· = d)) ⟨env0 0 ds, []⟩) : TSp 36 ds d := Sp_of mixed c_tree_Tree_other r_tree_Tree_other (fn := Try.f36) (by kernel_rfl) (by kernel_rfl) comp_tree_Tree_other (by kernel_rfl) hn h
theorem spm_tree_Tree_other {ds : List D} {d : D} {bx bx' : List Ent} (hn : Nat.ble ds.length 13 = true) (h : run TSpC gtab (sizeE bx) c_tree_Tree_other (retG r_tree_Tree_other (fun d1 bx1 => Rt (sizeE bx) bx1 d1 d bx')) ⟨env0 0 ds, bx⟩) : TSpM 36 ds bx d bx' := SpM_of mixed c_tree_Tree_other r_tree_Tree_other (fn := Try.f36) (by kernel_rfl) (by kernel_rfl) comp_tree_Tree_other (by kernel_rfl) hn h
/-- slices.Contains[[]glazier/api.ID,glazier/api.ID] -/
def c_slices_Contains_api_ID_api_ID : C := .seq (.reg false [
  ⟨(some 4), none, .mv false (.c (.bool false)), none⟩] (some [0, 1])) (
.seq (.reg false [
  ⟨(some 5), none, .mv false (.t 0), none⟩,
  ⟨(some 6), none, .mv false (.t 1), none⟩,
  ⟨(some 7), none, .call false 50 [(.t 5), (.t 6)], none⟩,
  ⟨(some 8), none, .bin .geq .i64 (.t 7) (.c (.int .i64 0)), none⟩,
  ⟨(some 4), none, .mv false (.t 8), none⟩] (some [4])) (
.ret))
set_option maxRecDepth 1000000 in
theorem comp_slices_Contains_api_ID_api_ID : (Try.f37.body.bind fun code => compC Try.prog Try.f37.ntmps code c_slices_Contains_api_ID_api_ID) = some c_slices_Contains_api_ID_api_ID.bare := by kernel_rfl
def r_slices_Contains_api_ID_api_ID : List R := [.t 4]
theorem spo_slices_Contains_api_ID_api_ID {ds : List D} {d : D} (hn : Nat.ble ds.length 9 = true) (h : run TSpC gtab 0 c_slices_Contains_api_ID_api_ID (retK r_slices_Contains_api_ID_api_ID (· = d)) ⟨env0 0 ds, []⟩) : TSp 37 ds d := Sp_of mixed c_slices_Contains_api_ID_api_ID r_slices_Contains_api_ID_api_ID (fn := Try.f37) (by kernel_rfl) (by kernel_rfl) comp_slices_Contains_api_ID_api_ID (by kernel_rfl) hn h
theorem spm_slices_Contains_api_ID_api_ID {ds : List D} {d : D} {bx bx' : List Ent} (hn : Nat.ble ds.length 9 = true) (h : run TSpC gtab (sizeE bx) c_slices_Contains_api_ID_api_ID (retG r_slices_Contains_api_ID_api_ID (fun d1 bx1 => Rt (sizeE bx) bx1 d1 d bx')) ⟨env0 0 ds, bx⟩) : TSpM 37 ds bx d bx' := SpM_of mixed c_slices_Contains_api_ID_api_ID r_slices_Contains_api_ID_api_ID (fn := Try.f37) (by kernel_rfl) (by kernel_rfl) comp_slices_Contains_api_ID_api_ID (by kernel_rfl) hn h
/-- (glazier/tree.Tree).take -/
def c_tree_Tree_take : C := .seq (.reg false [
  ⟨(some 2), none, .box true (.t 0), none⟩,
  ⟨(some 3), none, .box false (.t 1), none⟩] (some [2, 3])) (
.seq (.reg false [
  ⟨(some 5), none, .fld 1 (.t 2), none⟩,
  ⟨(some 6), none, .ld none (.t 5), none⟩,
  ⟨(some 7), none, .ld none (.t 3), none⟩,
  ⟨(some 8), none, .prm false false (.lkp 23 false) [(.t 6), (.t 7)], none⟩,
  ⟨(some 4), none, .mv false (.t 8), none⟩] (some [2, 3, 4])) (
.reg true [
  ⟨(some 9), none, .fld 0 (.t 2), none⟩,
  ⟨(some 10), none, .ld none (.t 9), (some [4])⟩,
  ⟨(some 11), none, .mv false (.t 4), none⟩,
  ⟨(some 12), none, .fld 0 (.t 2), none⟩,
  ⟨(some 13), none, .ld none (.t 12), none⟩,
  ⟨(some 14), none, .mv false (.t 4), none⟩,
  ⟨(some 15), none, .prm false false (.lkp 22 false) [(.t 13), (.t 14)], none⟩,
  ⟨(some 16), none, .clo 52 [(.t 3)], none⟩,
  ⟨(some 17), none, .callK [1] 51 [(.t 15), (.t 16)], none⟩,
  ⟨none, none, .prm false true (.upd 22) [(.t 10), (.t 11), (.t 17)], none⟩] (some [])))
set_option maxRecDepth 1000000 in
theorem comp_tree_Tree_take : (Try.f38.body.bind fun code => compC Try.prog Try.f38.ntmps code c_tree_Tree_take) = some c_tree_Tree_take.bare := by kernel_rfl
def r_tree_Tree_take : List R := []
theorem spo_tree_Tree_take {ds : List D} {d : D} (hn : Nat.ble ds.length 18 = true) (h : run TSpC gtab 0 c_tree_Tree_take (retK r_tree_Tree_take (· = d)) ⟨env0 0 ds, []⟩) : TSp 38 ds d := Sp_of mixed c_tree_Tree_take r_tree_Tree_take (fn := Try.f38) (by kernel_rfl) (by kernel_rfl) comp_tree_Tree_take (by kernel_rfl) hn h
theorem spm_tree_Tree_take {ds : List D} {d : D} {bx bx' : List Ent} (hn : Nat.ble ds.length 18 = true) (h : run TSpC gtab (sizeE bx) c_tree_Tree_take (retG r_tree_Tree_take (fun d1 bx1 => Rt (sizeE bx) bx1 d1 d bx')) ⟨env0 0 ds, bx⟩) : TSpM 38 ds bx d bx' := SpM_of mixed c_tree_Tree_take r_tree_Tree_take (fn := Try.f38) (by kernel_rfl) (by kernel_rfl) comp_tree_Tree_take (by kernel_rfl) hn h
/-- glazier/glazierref28.in -/
def c_ref28_in : C := .seq (.reg false [
  ⟨(some 4), none, .mv false (.c (.bool false)), none⟩] (some [0, 1])) (
.seq (.seq (.reg false [
  ⟨(some 5), none, .mv false (.c (.int .i64 0)), none⟩] (some [0, 1, 5])) (
.blk 0 (
  .loop (
    .seq (.seq (.reg false [
      ⟨(some 6), none, .mv false (.t 5), none⟩,
      ⟨(some 7), none, .mv false (.t 0), none⟩,
      ⟨(some 8), none, .len false (.t 7), none⟩,
      ⟨(some 9), none, .bin .lss .i64 (.t 6) (.t 8), none⟩] (some [0, 1, 5, 9])) (
    .ite (.t 9) (
      .skip) (
      .exit 0))) (
    .seq (.blk 1 (
      .seq (.reg false [
        ⟨(some 12), none, .mv false (.t 0), none⟩,
        ⟨(some 13), none, .mv false (.t 5), none⟩,
        ⟨(some 14), none, .ixs 1 (.t 12) (.t 13), none⟩,
        ⟨(some 15), none, .ld none (.t 14), none⟩,
        ⟨(some 16), none, .mv false (.t 1), none⟩,
        ⟨(some 17), none, .bin .eql .u32 (.t 15) (.t 16), none⟩] (some [0, 1, 5, 17])) (
      .ite (.t 17) (
        .seq (.reg false [
          ⟨(some 4), none, .mv false (.c (.bool true)), none⟩] (some [4])) (
        .ret)) (
        .skip)))) (
    .reg false [
      ⟨(some 10), none, .mv false (.t 5), none⟩,
      ⟨(some 11), none, .bin .add .i64 (.t 10) (.c (.int .i64 1)), none⟩,
      ⟨(some 5), none, .mv false (.t 11), none⟩] (some [0, 1, 5]))))))) (
.seq (.reg false [
  ⟨(some 4), none, .mv false (.c (.bool false)), none⟩] (some [4])) (
.ret)))
set_option maxRecDepth 1000000 in
theorem comp_ref28_in : (Try.f39.body.bind fun code => compC Try.prog Try.f39.ntmps code c_ref28_in) = some c_ref28_in.bare := by kernel_rfl
def r_ref28_in : List R := [.t 4]
theorem spo_ref28_in {ds : List D} {d : D} (hn : Nat.ble ds.length 18 = true) (h : run TSpC gtab 0 c_ref28_in (retK r_ref28_in (· = d)) ⟨env0 0 ds, []⟩) : TSp 39 ds d := Sp_of mixed c_ref28_in r_ref28_in (fn := Try.f39) (by kernel_rfl) (by kernel_rfl) comp_ref28_in (by kernel_rfl) hn h
theorem spm_ref28_in {ds : List D} {d : D} {bx bx' : List Ent} (hn : Nat.ble ds.length 18 = true) (h : run TSpC gtab (sizeE bx) c_ref28_in (retG r_ref28_in (fun d1 bx1 => Rt (sizeE bx) bx1 d1 d bx')) ⟨env0 0 ds, bx⟩) : TSpM 39 ds bx d bx' := SpM_of mixed c_ref28_in r_ref28_in (fn := Try.f39) (by kernel_rfl) (by kernel_rfl) comp_ref28_in (by kernel_rfl) hn h
/-- glazier/glazierref28.Up -/
def c_ref28_Up : C := .seq (.reg false [
  ⟨(some 4), none, .mv false (.c (.int .u32 0)), none⟩] (some [0, 1])) (
.seq (.seq (.reg false [
  ⟨(some 5), none, .mv false (.c (.int .i64 0)), none⟩] (some [0, 1, 5])) (
.blk 0 (
  .loop (
    .seq (.seq (.reg false [
      ⟨(some 6), none, .mv false (.t 5), none⟩,
      ⟨(some 7), none, .mv false (.t 0), none⟩,
      ⟨(some 8), none, .len false (.t 7), none⟩,
      ⟨(some 9), none, .bin .lss .i64 (.t 6) (.t 8), none⟩] (some [0, 1, 5, 9])) (
    .ite (.t 9) (
      .skip) (
      .exit 0))) (
    .seq (.blk 1 (
      .seq (.reg false [
        ⟨(some 12), none, .mv false (.t 0), none⟩,
        ⟨(some 13), none, .mv false (.t 5), none⟩,
        ⟨(some 14), none, .ixs 2 (.t 12) (.t 13), none⟩,
        ⟨(some 15), none, .fld 0 (.t 14), none⟩,
        ⟨(some 16), none, .ld none (.t 15), none⟩,
        ⟨(some 17), none, .mv false (.t 1), none⟩,
        ⟨(some 18), none, .bin .eql .u32 (.t 16) (.t 17), none⟩] (some [0, 1, 5, 18])) (
      .ite (.t 18) (
        .seq (.reg false [
          ⟨(some 19), none, .mv false (.t 0), none⟩,
          ⟨(some 20), none, .mv false (.t 5), none⟩,
          ⟨(some 21), none, .ixs 2 (.t 19) (.t 20), none⟩,
          ⟨(some 22), none, .fld 1 (.t 21), none⟩,
          ⟨(some 23), none, .ld none (.t 22), none⟩,
          ⟨(some 4), none, .mv false (.t 23), none⟩] (some [4])) (
        .ret)) (
        .skip)))) (
    .reg false [
      ⟨(some 10), none, .mv false (.t 5), none⟩,
      ⟨(some 11), none, .bin .add .i64 (.t 10) (.c (.int .i64 1)), none⟩,
      ⟨(some 5), none, .mv false (.t 11), none⟩] (some [0, 1, 5]))))))) (
.seq (.reg false [
  ⟨(some 4), none, .mv false (.c (.int .u32 0)), none⟩] (some [4])) (
.ret)))
set_option maxRecDepth 1000000 in
theorem comp_ref28_Up : (Try.f40.body.bind fun code => compC Try.prog Try.f40.ntmps code c_ref28_Up) = some c_ref28_Up.bare := by kernel_rfl
def r_ref28_Up : List R := [.t 4]
theorem spo_ref28_Up {ds : List D} {d : D} (hn : Nat.ble ds.length 24 = true) (h : run TSpC gtab 0 c_ref28_Up (retK r_ref28_Up (· = d)) ⟨env0 0 ds, []⟩) : TSp 40 ds d := Sp_of mixed c_ref28_Up r_ref28_Up (fn := Try.f40) (by kernel_rfl) (by kernel_rfl) comp_ref28_Up (by kernel_rfl) hn h
theorem spm_ref28_Up {ds : List D} {d : D} {bx bx' : List Ent} (hn : Nat.ble ds.length 24 = true) (h : run TSpC gtab (sizeE bx) c_ref28_Up (retG r_ref28_Up (fun d1 bx1 => Rt (sizeE bx) bx1 d1 d bx')) ⟨env0 0 ds, bx⟩) : TSpM 40 ds bx d bx' := SpM_of mixed c_ref28_Up r_ref28_Up (fn := Try.f40) (by kernel_rfl) (by kernel_rfl) comp_ref28_Up (by kernel_rfl) hn h
/-- slices.Clone[[]glazier/api.ID,glazier/api.ID] -/
def c_slices_Clone_api_ID_api_ID : C := .seq (.reg false [
  ⟨(some 2), none, .nilS 28 1, none⟩] (some [0])) (
.seq (.seq (.reg false [
  ⟨(some 3), none, .mv false (.t 0), none⟩,
  ⟨(some 4), none, .prm true false (.eqn false 32) [(.t 3)], none⟩] (some [0, 4])) (
.ite (.t 4) (
  .seq (.reg false [
    ⟨(some 2), none, .nilS 28 1, none⟩] (some [2])) (
  .ret)) (
  .skip))) (
.seq (.reg false [
  ⟨(some 5), none, .bsl (some false) 28 1 none [], none⟩,
  ⟨(some 6), none, .mv false (.t 0), none⟩,
  ⟨(some 7), none, .app 28 1 4 (.t 5) (.t 6), none⟩,
  ⟨(some 2), none, .mv false (.t 7), none⟩] (some [2])) (
.ret)))
set_option maxRecDepth 1000000 in
theorem comp_slices_Clone_api_ID_api_ID : (Try.f41.body.bind fun code => compC Try.prog Try.f41.ntmps code c_slices_Clone_api_ID_api_ID) = some c_slices_Clone_api_ID_api_ID.bare := by kernel_rfl
def r_slices_Clone_api_ID_api_ID : List R := [.t 2]
theorem spo_slices_Clone_api_ID_api_ID {ds : List D} {d : D} (hn : Nat.ble ds.length 8 = true) (h : run TSpC gtab 0 c_slices_Clone_api_ID_api_ID (retK r_slices_Clone_api_ID_api_ID (· = d)) ⟨env0 0 ds, []⟩) : TSp 41 ds d := Sp_of mixed c_slices_Clone_api_ID_api_ID r_slices_Clone_api_ID_api_ID (fn := Try.f41) (by kernel_rfl) (by kernel_rfl) comp_slices_Clone_api_ID_api_ID (by kernel_rfl) hn h
theorem spm_slices_Clone_api_ID_api_ID {ds : List D} {d : D} {bx bx' : List Ent} (hn : Nat.ble ds.length 8 = true) (h : run TSpC gtab (sizeE bx) c_slices_Clone_api_ID_api_ID (retG r_slices_Clone_api_ID_api_ID (fun d1 bx1 => Rt (sizeE bx) bx1 d1 d bx')) ⟨env0 0 ds, bx⟩) : TSpM 41 ds bx d bx' := SpM_of mixed c_slices_Clone_api_ID_api_ID r_slices_Clone_api_ID_api_ID (fn := Try.f41) (by kernel_rfl) (by kernel_rfl) comp_slices_Clone_api_ID_api_ID (by kernel_rfl) hn h
/-- glazier/glazierref28.Add -/
def c_ref28_Add : C := .seq (.reg false [
  ⟨(some 6), none, .nilS 67 2, none⟩,
  ⟨(some 7), none, .mv false (.c (.int .i64 0)), none⟩] (some [0, 1, 2])) (
.seq (.seq (.reg false [
  ⟨(some 9), none, .mv false (.t 1), none⟩,
  ⟨(some 10), none, .call false 53 [(.t 9)], none⟩,
  ⟨(some 8), none, .mv false (.t 10), none⟩] (some [0, 1, 2, 8])) (
.seq (.reg false [
  ⟨(some 11), none, .mv false (.t 8), none⟩,
  ⟨(some 12), none, .bin .neq .i64 (.t 11) (.c (.int .i64 0)), none⟩] (some [0, 1, 2, 8, 12])) (
.ite (.t 12) (
  .seq (.reg false [
    ⟨(some 13), none, .mv false (.t 0), none⟩,
    ⟨(some 14), none, .mv false (.t 8), none⟩,
    ⟨(some 6), none, .mv false (.t 13), none⟩,
    ⟨(some 7), none, .mv false (.t 14), none⟩] (some [6, 7])) (
  .ret)) (
  .skip)))) (
.seq (.seq (.reg false [
  ⟨(some 15), none, .mv false (.t 0), none⟩,
  ⟨(some 16), none, .mv false (.t 1), none⟩,
  ⟨(some 17), none, .call false 21 [(.t 15), (.t 16)], none⟩] (some [0, 1, 2, 17])) (
.ite (.t 17) (
  .seq (.reg false [
    ⟨(some 18), none, .mv false (.t 0), none⟩,
    ⟨(some 6), none, .mv false (.t 18), none⟩,
    ⟨(some 7), none, .mv false (.c (.int .i64 7)), none⟩] (some [6, 7])) (
  .ret)) (
  .skip))) (
.seq (.seq (.reg false [
  ⟨(some 19), none, .mv false (.t 0), none⟩,
  ⟨(some 20), none, .mv false (.t 2), none⟩,
  ⟨(some 21), none, .call false 21 [(.t 19), (.t 20)], none⟩,
  ⟨(some 22), none, .not (.t 21), none⟩] (some [0, 1, 2, 22])) (
.ite (.t 22) (
  .seq (.reg false [
    ⟨(some 23), none, .mv false (.t 0), none⟩,
    ⟨(some 6), none, .mv false (.t 23), none⟩,
    ⟨(some 7), none, .mv false (.c (.int .i64 6)), none⟩] (some [6, 7])) (
  .ret)) (
  .skip))) (
.seq (.seq (.reg false [
  ⟨(some 24), none, .mv false (.t 0), none⟩,
  ⟨(some 25), none, .len false (.t 24), none⟩,
  ⟨(some 26), none, .bin .geq .i64 (.t 25) (.c (.int .i64 63)), none⟩] (some [0, 1, 2, 26])) (
.ite (.t 26) (
  .seq (.reg false [
    ⟨(some 27), none, .mv false (.t 0), none⟩,
    ⟨(some 6), none, .mv false (.t 27), none⟩,
    ⟨(some 7), none, .mv false (.c (.int .i64 5)), none⟩] (some [6, 7])) (
  .ret)) (
  .skip))) (
.seq (.reg false [
  ⟨(some 28), none, .bsl (some false) 67 2 (some 2) [], none⟩,
  ⟨(some 29), none, .mv false (.t 0), none⟩,
  ⟨(some 30), none, .app 67 2 8 (.t 28) (.t 29), none⟩,
  ⟨(some 31), none, .mv false (.t 1), none⟩,
  ⟨(some 32), none, .mv false (.t 2), none⟩,
  ⟨(some 33), none, .bld [(.int .u32 0), (.int .u32 0)] [(0, none, (.t 31)), (1, none, (.t 32))], none⟩,
  ⟨(some 34), none, .bsl none 67 2 (some 2) [(.t 33)], none⟩,
  ⟨(some 35), none, .app 67 2 8 (.t 30) (.t 34), none⟩,
  ⟨(some 6), none, .mv false (.t 35), none⟩,
  ⟨(some 7), none, .mv false (.c (.int .i64 0)), none⟩] (some [6, 7])) (
.ret))))))
set_option maxRecDepth 1000000 in
theorem comp_ref28_Add : (Try.f42.body.bind fun code => compC Try.prog Try.f42.ntmps code c_ref28_Add) = some c_ref28_Add.bare := by kernel_rfl
def r_ref28_Add : List R := [.t 6, .t 7]
theorem spo_ref28_Add {ds : List D} {d : D} (hn : Nat.ble ds.length 36 = true) (h : run TSpC gtab 0 c_ref28_Add (retK r_ref28_Add (· = d)) ⟨env0 0 ds, []⟩) : TSp 42 ds d := Sp_of mixed c_ref28_Add r_ref28_Add (fn := Try.f42) (by kernel_rfl) (by kernel_rfl) comp_ref28_Add (by kernel_rfl) hn h
theorem spm_ref28_Add {ds : List D} {d : D} {bx bx' : List Ent} (hn : Nat.ble ds.length 36 = true) (h : run TSpC gtab (sizeE bx) c_ref28_Add (retG r_ref28_Add (fun d1 bx1 => Rt (sizeE bx) bx1 d1 d bx')) ⟨env0 0 ds, bx⟩) : TSpM 42 ds bx d bx' := SpM_of mixed c_ref28_Add r_ref28_Add (fn := Try.f42) (by kernel_rfl) (by kernel_rfl) comp_ref28_Add (by kernel_rfl) hn h
/-- glazier/glazierref28.Remove -/
def c_ref28_Remove : C := .seq (.reg false [
  ⟨(some 4), none, .nilS 67 2, none⟩,
  ⟨(some 5), none, .nilS 28 1, none⟩,
  ⟨(some 6), none, .mv false (.c (.int .i64 0)), none⟩] (some [0, 1])) (
.seq (.seq (.reg false [
  ⟨(some 10), none, .mv false (.t 1), none⟩,
  ⟨(some 11), none, .bin .eql .u32 (.t 10) (.c (.int .u32 1)), none⟩] (some [0, 1, 11])) (
.ite (.t 11) (
  .seq (.reg false [
    ⟨(some 12), none, .mv false (.t 0), none⟩,
    ⟨(some 4), none, .mv false (.t 12), none⟩,
    ⟨(some 5), none, .nilS 28 1, none⟩,
    ⟨(some 6), none, .mv false (.c (.int .i64 23)), none⟩] (some [4, 5, 6])) (
  .ret)) (
  .skip))) (
.seq (.seq (.reg false [
  ⟨(some 13), none, .mv false (.t 0), none⟩,
  ⟨(some 14), none, .mv false (.t 1), none⟩,
  ⟨(some 15), none, .call false 21 [(.t 13), (.t 14)], none⟩,
  ⟨(some 16), none, .not (.t 15), none⟩] (some [0, 1, 16])) (
.ite (.t 16) (
  .seq (.reg false [
    ⟨(some 17), none, .mv false (.t 0), none⟩,
    ⟨(some 4), none, .mv false (.t 17), none⟩,
    ⟨(some 5), none, .nilS 28 1, none⟩,
    ⟨(some 6), none, .mv false (.c (.int .i64 6)), none⟩] (some [4, 5, 6])) (
  .ret)) (
  .skip))) (
.seq (.reg false [
  ⟨(some 18), none, .mv false (.t 0), none⟩,
  ⟨(some 19), none, .mv false (.t 1), none⟩,
  ⟨(some 20), none, .call false 54 [(.t 18), (.t 19)], none⟩,
  ⟨(some 7), none, .mv false (.t 20), none⟩] (some [0, 7])) (
.seq (.reg false [
  ⟨(some 8), none, .nilS 67 2, none⟩] (some [0, 7, 8])) (
.seq (.seq (.reg false [
  ⟨(some 9), none, .mv false (.c (.int .i64 0)), none⟩] (some [0, 7, 8, 9])) (
.blk 0 (
  .loop (
    .seq (.seq (.reg false [
      ⟨(some 21), none, .mv false (.t 9), none⟩,
      ⟨(some 22), none, .mv false (.t 0), none⟩,
      ⟨(some 23), none, .len false (.t 22), none⟩,
      ⟨(some 24), none, .bin .lss .i64 (.t 21) (.t 23), none⟩] (some [0, 7, 8, 9, 24])) (
    .ite (.t 24) (
      .skip) (
      .exit 0))) (
    .seq (.blk 1 (
      .seq (.reg false [
        ⟨(some 27), none, .mv false (.t 7), none⟩,
        ⟨(some 28), none, .mv false (.t 0), none⟩,
        ⟨(some 29), none, .mv false (.t 9), none⟩,
        ⟨(some 30), none, .ixs 2 (.t 28) (.t 29), none⟩,
        ⟨(some 31), none, .fld 0 (.t 30), none⟩,
        ⟨(some 32), none, .ld none (.t 31), none⟩,
        ⟨(some 33), none, .call false 39 [(.t 27), (.t 32)], none⟩,
        ⟨(some 34), none, .not (.t 33), none⟩] (some [0, 7, 8, 9, 34])) (
      .ite (.t 34) (
        .reg false [
          ⟨(some 35), none, .mv false (.t 8), none⟩,
          ⟨(some 36), none, .mv false (.t 0), none⟩,
          ⟨(some 37), none, .mv false (.t 9), none⟩,
          ⟨(some 38), none, .ixs 2 (.t 36) (.t 37), none⟩,
          ⟨(some 39), none, .ld (some 2) (.t 38), none⟩,
          ⟨(some 40), none, .bsl none 67 2 (some 2) [(.t 39)], none⟩,
          ⟨(some 41), none, .app 67 2 8 (.t 35) (.t 40), none⟩,
          ⟨(some 8), none, .mv false (.t 41), none⟩] (some [0, 7, 8, 9])) (
        .skip)))) (
    .reg false [
      ⟨(some 25), none, .mv false (.t 9), none⟩,
      ⟨(some 26), none, .bin .add .i64 (.t 25) (.c (.int .i64 1)), none⟩,
      ⟨(some 9), none, .mv false (.t 26), none⟩] (some [0, 7, 8, 9]))))))) (
.seq (.reg false [
  ⟨(some 42), none, .mv false (.t 8), none⟩,
  ⟨(some 43), none, .mv false (.t 7), none⟩,
  ⟨(some 4), none, .mv false (.t 42), none⟩,
  ⟨(some 5), none, .mv false (.t 43), none⟩,
  ⟨(some 6), none, .mv false (.c (.int .i64 0)), none⟩] (some [4, 5, 6])) (
.ret)))))))
set_option maxRecDepth 1000000 in
theorem comp_ref28_Remove : (Try.f43.body.bind fun code => compC Try.prog Try.f43.ntmps code c_ref28_Remove) = some c_ref28_Remove.bare := by kernel_rfl
def r_ref28_Remove : List R := [.t 4, .t 5, .t 6]
theorem spo_ref28_Remove {ds : List D} {d : D} (hn : Nat.ble ds.length 44 = true) (h : run TSpC gtab 0 c_ref28_Remove (retK r_ref28_Remove (· = d)) ⟨env0 0 ds, []⟩) : TSp 43 ds d := Sp_of mixed c_ref28_Remove r_ref28_Remove (fn := Try.f43) (by kernel_rfl) (by kernel_rfl) comp_ref28_Remove (by kernel_rfl) hn h
theorem spm_ref28_Remove {ds : List D} {d : D} {bx bx' : List Ent} (hn : Nat.ble ds.length 44 = true) (h : run TSpC gtab (sizeE bx) c_ref28_Remove (retG r_ref28_Remove (fun d1 bx1 => Rt (sizeE bx) bx1 d1 d bx')) ⟨env0 0 ds, bx⟩) : TSpM 43 ds bx d bx' := SpM_of mixed c_ref28_Remove r_ref28_Remove (fn := Try.f43) (by kernel_rfl) (by kernel_rfl) comp_ref28_Remove (by kernel_rfl) hn h
/-- glazier/glazierref28.Move -/
def c_ref28_Move : C := .seq (.reg false [
  ⟨(some 6), none, .nilS 67 2, none⟩,
  ⟨(some 7), none, .mv false (.c (.int .i64 0)), none⟩] (some [0, 1, 2])) (
.seq (.seq (.reg false [
  ⟨(some 8), none, .mv false (.t 1), none⟩,
  ⟨(some 9), none, .bin .eql .u32 (.t 8) (.c (.int .u32 1)), none⟩] (some [0, 1, 2, 9])) (
.ite (.t 9) (
  .seq (.reg false [
    ⟨(some 10), none, .mv false (.t 0), none⟩,
    ⟨(some 6), none, .mv false (.t 10), none⟩,
    ⟨(some 7), none, .mv false (.c (.int .i64 23)), none⟩] (some [6, 7])) (
  .ret)) (
  .skip))) (
.seq (.seq (.reg false [
  ⟨(some 11), none, .mv false (.t 0), none⟩,
  ⟨(some 12), none, .mv false (.t 1), none⟩,
  ⟨(some 13), none, .call false 21 [(.t 11), (.t 12)], none⟩,
  ⟨(some 14), none, .not (.t 13), none⟩,
  ⟨(some 15), none, .mv false (.t 14), none⟩,
  ⟨(some 16), some (15, false), .mv false (.t 0), none⟩,
  ⟨(some 17), some (15, false), .mv false (.t 2), none⟩,
  ⟨(some 18), some (15, false), .call false 21 [(.t 16), (.t 17)], none⟩,
  ⟨(some 19), some (15, false), .not (.t 18), none⟩,
  ⟨(some 20), none, .pick (.t 15) (.c (.bool true)) (.t 19), none⟩] (some [0, 1, 2, 20])) (
.ite (.t 20) (
  .seq (.reg false [
    ⟨(some 21), none, .mv false (.t 0), none⟩,
    ⟨(some 6), none, .mv false (.t 21), none⟩,
    ⟨(some 7), none, .mv false (.c (.int .i64 6)), none⟩] (some [6, 7])) (
  .ret)) (
  .skip))) (
.seq (.seq (.reg false [
  ⟨(some 22), none, .mv false (.t 0), none⟩,
  ⟨(some 23), none, .mv false (.t 1), none⟩,
  ⟨(some 24), none, .call false 25 [(.t 22), (.t 23)], none⟩,
  ⟨(some 25), none, .mv false (.t 2), none⟩,
  ⟨(some 26), none, .call false 39 [(.t 24), (.t 25)], none⟩] (some [0, 1, 2, 26])) (
.ite (.t 26) (
  .seq (.reg false [
    ⟨(some 27), none, .mv false (.t 0), none⟩,
    ⟨(some 6), none, .mv false (.t 27), none⟩,
    ⟨(some 7), none, .mv false (.c (.int .i64 19)), none⟩] (some [6, 7])) (
  .ret)) (
  .skip))) (
.seq (.reg false [
  ⟨(some 28), none, .mv false (.t 0), none⟩,
  ⟨(some 29), none, .mv false (.t 1), none⟩,
  ⟨(some 30), none, .call true 55 [(.t 28), (.t 29)], none⟩,
  ⟨(some 31), none, .mv false (.t 1), none⟩,
  ⟨(some 32), none, .mv false (.t 2), none⟩,
  ⟨(some 33), none, .bld [(.int .u32 0), (.int .u32 0)] [(0, none, (.t 31)), (1, none, (.t 32))], none⟩,
  ⟨(some 34), none, .bsl none 67 2 (some 2) [(.t 33)], none⟩,
  ⟨(some 35), none, .app 67 2 8 (.t 30) (.t 34), none⟩,
  ⟨(some 6), none, .mv false (.t 35), none⟩,
  ⟨(some 7), none, .mv false (.c (.int .i64 0)), none⟩] (some [6, 7])) (
.ret)))))
set_option maxRecDepth 1000000 in
theorem comp_ref28_Move : (Try.f44.body.bind fun code => compC Try.prog Try.f44.ntmps code c_ref28_Move) = some c_ref28_Move.bare := by kernel_rfl
def r_ref28_Move : List R := [.t 6, .t 7]
theorem spo_ref28_Move {ds : List D} {d : D} (hn : Nat.ble ds.length 36 = true) (h : run TSpC gtab 0 c_ref28_Move (retK r_ref28_Move (· = d)) ⟨env0 0 ds, []⟩) : TSp 44 ds d := Sp_of mixed c_ref28_Move r_ref28_Move (fn := Try.f44) (by kernel_rfl) (by kernel_rfl) comp_ref28_Move (by kernel_rfl) hn h
theorem spm_ref28_Move {ds : List D} {d : D} {bx bx' : List Ent} (hn : Nat.ble ds.length 36 = true) (h : run TSpC gtab (sizeE bx) c_ref28_Move (retG r_ref28_Move (fun d1 bx1 => Rt (sizeE bx) bx1 d1 d bx')) ⟨env0 0 ds, bx⟩) : TSpM 44 ds bx d bx' := SpM_of mixed c_ref28_Move r_ref28_Move (fn := Try.f44) (by kernel_rfl) (by kernel_rfl) comp_ref28_Move (by kernel_rfl) hn h
/-- glazier/glazierref28.Place -/
def c_ref28_Place : C := .seq (.reg false [
  ⟨(some 6), none, .nilS 67 2, none⟩,
  ⟨(some 7), none, .mv false (.c (.int .i64 0)), none⟩] (some [0, 1, 2])) (
.seq (.seq (.reg false [
  ⟨(some 13), none, .mv false (.t 1), none⟩,
  ⟨(some 14), none, .bin .eql .u32 (.t 13) (.c (.int .u32 1)), none⟩] (some [0, 1, 2, 14])) (
.ite (.t 14) (
  .seq (.reg false [
    ⟨(some 15), none, .mv false (.t 0), none⟩,
    ⟨(some 6), none, .mv false (.t 15), none⟩,
    ⟨(some 7), none, .mv false (.c (.int .i64 23)), none⟩] (some [6, 7])) (
  .ret)) (
  .skip))) (
.seq (.seq (.reg false [
  ⟨(some 16), none, .mv false (.t 0), none⟩,
  ⟨(some 17), none, .mv false (.t 1), none⟩,
  ⟨(some 18), none, .call false 21 [(.t 16), (.t 17)], none⟩,
  ⟨(some 19), none, .not (.t 18), none⟩] (some [0, 1, 2, 19])) (
.ite (.t 19) (
  .seq (.reg false [
    ⟨(some 20), none, .mv false (.t 0), none⟩,
    ⟨(some 6), none, .mv false (.t 20), none⟩,
    ⟨(some 7), none, .mv false (.c (.int .i64 6)), none⟩] (some [6, 7])) (
  .ret)) (
  .skip))) (
.seq (.reg false [
  ⟨(some 21), none, .mv false (.t 0), none⟩,
  ⟨(some 22), none, .mv false (.t 1), none⟩,
  ⟨(some 23), none, .call false 40 [(.t 21), (.t 22)], none⟩,
  ⟨(some 8), none, .mv false (.t 23), none⟩] (some [0, 1, 2, 8])) (
.seq (.reg false [
  ⟨(some 24), none, .mv false (.t 0), none⟩,
  ⟨(some 25), none, .mv false (.t 1), none⟩,
  ⟨(some 26), none, .call false 55 [(.t 24), (.t 25)], none⟩,
  ⟨(some 9), none, .mv false (.t 26), none⟩] (some [0, 1, 2, 8, 9])) (
.seq (.seq (.reg false [
  ⟨(some 27), none, .mv false (.t 2), none⟩,
  ⟨(some 28), none, .bin .lss .i64 (.t 27) (.c (.int .i64 0)), none⟩,
  ⟨(some 29), none, .mv false (.t 28), none⟩,
  ⟨(some 30), some (29, false), .mv false (.t 2), none⟩,
  ⟨(some 31), some (29, false), .mv false (.t 9), none⟩,
  ⟨(some 32), some (29, false), .mv false (.t 8), none⟩,
  ⟨(some 33), some (29, false), .call false 24 [(.t 31), (.t 32)], none⟩,
  ⟨(some 34), some (29, false), .len false (.t 33), none⟩,
  ⟨(some 35), some (29, false), .bin .gtr .i64 (.t 30) (.t 34), none⟩,
  ⟨(some 36), none, .pick (.t 29) (.c (.bool true)) (.t 35), none⟩] (some [0, 1, 2, 8, 9, 36])) (
.ite (.t 36) (
  .seq (.reg false [
    ⟨(some 37), none, .mv false (.t 0), none⟩,
    ⟨(some 6), none, .mv false (.t 37), none⟩,
    ⟨(some 7), none, .mv false (.c (.int .i64 1)), none⟩] (some [6, 7])) (
  .ret)) (
  .skip))) (
.seq (.reg false [
  ⟨(some 10), none, .nilS 67 2, none⟩] (some [1, 2, 8, 9, 10])) (
.seq (.reg false [
  ⟨(some 11), none, .mv false (.c (.int .i64 0)), none⟩] (some [1, 2, 8, 9, 10, 11])) (
.seq (.seq (.reg false [
  ⟨(some 12), none, .mv false (.c (.int .i64 0)), none⟩] (some [1, 2, 8, 9, 10, 11, 12])) (
.blk 0 (
  .loop (
    .seq (.seq (.reg false [
      ⟨(some 38), none, .mv false (.t 12), none⟩,
      ⟨(some 39), none, .mv false (.t 9), none⟩,
      ⟨(some 40), none, .len false (.t 39), none⟩,
      ⟨(some 41), none, .bin .lss .i64 (.t 38) (.t 40), none⟩] (some [1, 2, 8, 9, 10, 11, 12, 41])) (
    .ite (.t 41) (
      .skip) (
      .exit 0))) (
    .seq (.blk 1 (
      .seq (.seq (.reg false [
        ⟨(some 44), none, .mv false (.t 9), none⟩,
        ⟨(some 45), none, .mv false (.t 12), none⟩,
        ⟨(some 46), none, .ixs 2 (.t 44) (.t 45), none⟩,
        ⟨(some 47), none, .fld 1 (.t 46), none⟩,
        ⟨(some 48), none, .ld none (.t 47), none⟩,
        ⟨(some 49), none, .mv false (.t 8), none⟩,
        ⟨(some 50), none, .bin .eql .u32 (.t 48) (.t 49), none⟩] (some [1, 2, 8, 9, 10, 11, 12, 50])) (
      .ite (.t 50) (
        .seq (.seq (.reg false [
          ⟨(some 51), none, .mv false (.t 11), none⟩,
          ⟨(some 52), none, .mv false (.t 2), none⟩,
          ⟨(some 53), none, .bin .eql .i64 (.t 51) (.t 52), none⟩] (some [1, 2, 8, 9, 10, 11, 12, 53])) (
        .ite (.t 53) (
          .reg false [
            ⟨(some 54), none, .mv false (.t 10), none⟩,
            ⟨(some 55), none, .mv false (.t 1), none⟩,
            ⟨(some 56), none, .mv false (.t 8), none⟩,
            ⟨(some 57), none, .bld [(.int .u32 0), (.int .u32 0)] [(0, none, (.t 55)), (1, none, (.t 56))], none⟩,
            ⟨(some 58), none, .bsl none 67 2 (some 2) [(.t 57)], none⟩,
            ⟨(some 59), none, .app 67 2 8 (.t 54) (.t 58), none⟩,
            ⟨(some 10), none, .mv false (.t 59), none⟩] (some [1, 2, 8, 9, 10, 11, 12])) (
          .skip))) (
        .reg false [
          ⟨(some 60), none, .mv false (.t 11), none⟩,
          ⟨(some 61), none, .bin .add .i64 (.t 60) (.c (.int .i64 1)), none⟩,
          ⟨(some 11), none, .mv false (.t 61), none⟩] (some [1, 2, 8, 9, 10, 11, 12]))) (
        .skip))) (
      .reg false [
        ⟨(some 62), none, .mv false (.t 10), none⟩,
        ⟨(some 63), none, .mv false (.t 9), none⟩,
        ⟨(some 64), none, .mv false (.t 12), none⟩,
        ⟨(some 65), none, .ixs 2 (.t 63) (.t 64), none⟩,
        ⟨(some 66), none, .ld (some 2) (.t 65), none⟩,
        ⟨(some 67), none, .bsl none 67 2 (some 2) [(.t 66)], none⟩,
        ⟨(some 68), none, .app 67 2 8 (.t 62) (.t 67), none⟩,
        ⟨(some 10), none, .mv false (.t 68), none⟩] (some [1, 2, 8, 9, 10, 11, 12])))) (
    .reg false [
      ⟨(some 42), none, .mv false (.t 12), none⟩,
      ⟨(some 43), none, .bin .add .i64 (.t 42) (.c (.int .i64 1)), none⟩,
      ⟨(some 12), none, .mv false (.t 43), none⟩] (some [1, 2, 8, 9, 10, 11, 12]))))))) (
.seq (.seq (.reg false [
  ⟨(some 69), none, .mv false (.t 11), none⟩,
  ⟨(some 70), none, .mv false (.t 2), none⟩,
  ⟨(some 71), none, .bin .eql .i64 (.t 69) (.t 70), none⟩] (some [1, 8, 10, 71])) (
.ite (.t 71) (
  .reg false [
    ⟨(some 72), none, .mv false (.t 10), none⟩,
    ⟨(some 73), none, .mv false (.t 1), none⟩,
    ⟨(some 74), none, .mv false (.t 8), none⟩,
    ⟨(some 75), none, .bld [(.int .u32 0), (.int .u32 0)] [(0, none, (.t 73)), (1, none, (.t 74))], none⟩,
    ⟨(some 76), none, .bsl none 67 2 (some 2) [(.t 75)], none⟩,
    ⟨(some 77), none, .app 67 2 8 (.t 72) (.t 76), none⟩,
    ⟨(some 10), none, .mv false (.t 77), none⟩] (some [10])) (
  .skip))) (
.seq (.reg false [
  ⟨(some 78), none, .mv false (.t 10), none⟩,
  ⟨(some 6), none, .mv false (.t 78), none⟩,
  ⟨(some 7), none, .mv false (.c (.int .i64 0)), none⟩] (some [6, 7])) (
.ret)))))))))))
set_option maxRecDepth 1000000 in
theorem comp_ref28_Place : (Try.f45.body.bind fun code => compC Try.prog Try.f45.ntmps code c_ref28_Place) = some c_ref28_Place.bare := by kernel_rfl
def r_ref28_Place : List R := [.t 6, .t 7]
theorem spo_ref28_Place {ds : List D} {d : D} (hn : Nat.ble ds.length 79 = true) (h : run TSpC gtab 0 c_ref28_Place (retK r_ref28_Place (· = d)) ⟨env0 0 ds, []⟩) : TSp 45 ds d := Sp_of mixed c_ref28_Place r_ref28_Place (fn := Try.f45) (by kernel_rfl) (by kernel_rfl) comp_ref28_Place (by kernel_rfl) hn h
theorem spm_ref28_Place {ds : List D} {d : D} {bx bx' : List Ent} (hn : Nat.ble ds.length 79 = true) (h : run TSpC gtab (sizeE bx) c_ref28_Place (retG r_ref28_Place (fun d1 bx1 => Rt (sizeE bx) bx1 d1 d bx')) ⟨env0 0 ds, bx⟩) : TSpM 45 ds bx d bx' := SpM_of mixed c_ref28_Place r_ref28_Place (fn := Try.f45) (by kernel_rfl) (by kernel_rfl) comp_ref28_Place (by kernel_rfl) hn h
/-- (glazier/tree.Tree).Remove$1 -/
def c_tree_Tree_Remove_1 : C := .seq (.seq (.reg false [
  ⟨(some 7), none, .fld 0 (.t 1), none⟩,
  ⟨(some 8), none, .ld none (.t 7), none⟩,
  ⟨(some 9), none, .mv false (.t 0), none⟩,
  ⟨(some 10), none, .prm false false (.lkp 22 false) [(.t 8), (.t 9)], none⟩,
  ⟨(some 11), none, .len false (.t 10), none⟩,
  ⟨(some 12), none, .mv false (.c (.int .i64 0)), none⟩] (some [0, 2, 3, 10, 11, 12])) (
.blk 0 (
  .loop (
    .seq (.reg false [
      ⟨(some 13), none, .bin .lss .i64 (.t 12) (.t 11), none⟩] (some [0, 2, 3, 10, 11, 12, 13])) (
    .seq (.ite (.t 13) (
      .skip) (
      .exit 0)) (
    .seq (.blk 1 (
      .seq (.reg false [
        ⟨(some 14), none, .ixs 1 (.t 10) (.t 12), none⟩,
        ⟨(some 15), none, .ld none (.t 14), none⟩,
        ⟨(some 6), none, .mv false (.t 15), none⟩] (some [0, 2, 3, 6, 10, 11, 12])) (
      .reg false [
        ⟨(some 16), none, .ld none (.t 2), none⟩,
        ⟨(some 17), none, .mv false (.t 6), none⟩,
        ⟨(some 18), none, .callv true (.t 16) [(.t 17)], none⟩] (some [0, 2, 3, 10, 11, 12])))) (
    .reg false [
      ⟨(some 19), none, .bin .add .i64 (.t 12) (.c (.int .i64 1)), none⟩,
      ⟨(some 12), none, .mv false (.t 19), none⟩] (some [0, 2, 3, 10, 11, 12])))))))) (
.reg false [
  ⟨(some 20), none, .ld none (.t 3), none⟩,
  ⟨(some 21), none, .mv false (.t 0), none⟩,
  ⟨(some 22), none, .bsl none 28 1 none [(.t 21)], none⟩,
  ⟨(some 23), none, .app 28 1 4 (.t 20) (.t 22), none⟩,
  ⟨none, none, .st none (.t 3) (.t 23), none⟩] (some []))
set_option maxRecDepth 1000000 in
theorem comp_tree_Tree_Remove_1 : (Try.f46.body.bind fun code => compC Try.prog Try.f46.ntmps code c_tree_Tree_Remove_1) = some c_tree_Tree_Remove_1.bare := by kernel_rfl
def r_tree_Tree_Remove_1 : List R := []
theorem spo_tree_Tree_Remove_1 {ds : List D} {d : D} (hn : Nat.ble ds.length 24 = true) (h : run TSpC gtab 0 c_tree_Tree_Remove_1 (retK r_tree_Tree_Remove_1 (· = d)) ⟨env0 0 ds, []⟩) : TSp 46 ds d := Sp_of mixed c_tree_Tree_Remove_1 r_tree_Tree_Remove_1 (fn := Try.f46) (by kernel_rfl) (by kernel_rfl) comp_tree_Tree_Remove_1 (by kernel_rfl) hn h
theorem spm_tree_Tree_Remove_1 {ds : List D} {d : D} {bx bx' : List Ent} (hn : Nat.ble ds.length 24 = true) (h : run TSpC gtab (sizeE bx) c_tree_Tree_Remove_1 (retG r_tree_Tree_Remove_1 (fun d1 bx1 => Rt (sizeE bx) bx1 d1 d bx')) ⟨env0 0 ds, bx⟩) : TSpM 46 ds bx d bx' := SpM_of mixed c_tree_Tree_Remove_1 r_tree_Tree_Remove_1 (fn := Try.f46) (by kernel_rfl) (by kernel_rfl) comp_tree_Tree_Remove_1 (by kernel_rfl) hn h
/-- glazier/ident.Client -/
def c_ident_Client : C := .seq (.reg false [
  ⟨(some 2), none, .mv false (.c (.int .i64 0)), none⟩,
  ⟨(some 3), none, .mv false (.c (.bool false)), none⟩] (some [0])) (
.seq (.seq (.reg false [
  ⟨(some 5), none, .mv false (.t 0), none⟩,
  ⟨(some 6), none, .bin .eql .u32 (.t 5) (.c (.int .u32 1)), none⟩] (some [0, 6])) (
.ite (.t 6) (
  .seq (.reg false [
    ⟨(some 2), none, .mv false (.c (.int .i64 0)), none⟩,
    ⟨(some 3), none, .mv false (.c (.bool true)), none⟩] (some [2, 3])) (
  .ret)) (
  .skip))) (
.seq (.reg false [
  ⟨(some 7), none, .mv false (.t 0), none⟩,
  ⟨(some 8), none, .bin .quo .u32 (.t 7) (.c (.int .u32 1048576)), none⟩,
  ⟨(some 9), none, .conv .i64 (.t 8), none⟩,
  ⟨(some 4), none, .mv false (.t 9), none⟩] (some [0, 4])) (
.seq (.seq (.reg false [
  ⟨(some 10), none, .mv false (.t 0), none⟩,
  ⟨(some 11), none, .bin .rem .u32 (.t 10) (.c (.int .u32 1048576)), none⟩,
  ⟨(some 12), none, .bin .eql .u32 (.t 11) (.c (.int .u32 0)), none⟩,
  ⟨(some 13), none, .mv false (.t 12), none⟩,
  ⟨(some 14), some (13, false), .mv false (.t 4), none⟩,
  ⟨(some 15), some (13, false), .call false 58 [(.t 14)], none⟩,
  ⟨(some 16), some (13, false), .not (.t 15), none⟩,
  ⟨(some 17), none, .pick (.t 13) (.c (.bool true)) (.t 16), none⟩] (some [4, 17])) (
.ite (.t 17) (
  .seq (.reg false [
    ⟨(some 2), none, .mv false (.c (.int .i64 0)), none⟩,
    ⟨(some 3), none, .mv false (.c (.bool false)), none⟩] (some [2, 3])) (
  .ret)) (
  .skip))) (
.seq (.reg false [
  ⟨(some 18), none, .mv false (.t 4), none⟩,
  ⟨(some 2), none, .mv false (.t 18), none⟩,
  ⟨(some 3), none, .mv false (.c (.bool true)), none⟩] (some [2, 3])) (
.ret)))))
set_option maxRecDepth 1000000 in
theorem comp_ident_Client : (Try.f48.body.bind fun code => compC Try.prog Try.f48.ntmps code c_ident_Client) = some c_ident_Client.bare := by kernel_rfl
def r_ident_Client : List R := [.t 2, .t 3]
theorem spo_ident_Client {ds : List D} {d : D} (hn : Nat.ble ds.length 19 = true) (h : run TSpC gtab 0 c_ident_Client (retK r_ident_Client (· = d)) ⟨env0 0 ds, []⟩) : TSp 48 ds d := Sp_of mixed c_ident_Client r_ident_Client (fn := Try.f48) (by kernel_rfl) (by kernel_rfl) comp_ident_Client (by kernel_rfl) hn h
theorem spm_ident_Client {ds : List D} {d : D} {bx bx' : List Ent} (hn : Nat.ble ds.length 19 = true) (h : run TSpC gtab (sizeE bx) c_ident_Client (retG r_ident_Client (fun d1 bx1 => Rt (sizeE bx) bx1 d1 d bx')) ⟨env0 0 ds, bx⟩) : TSpM 48 ds bx d bx' := SpM_of mixed c_ident_Client r_ident_Client (fn := Try.f48) (by kernel_rfl) (by kernel_rfl) comp_ident_Client (by kernel_rfl) hn h
/-- maps.Copy[map[glazier/api.ID]glazier/api.ID,map[glazier/api.ID]glazier/api.ID,glazier/api.ID,glazier/api.ID] -/
def c_maps_Copy_map_api_ID_api_ID_map_api_ID_api_ID_api_ID_api_ID : C := .seq (.reg false [
  ⟨(some 6), none, .mv false (.t 1), none⟩,
  ⟨(some 7), none, .prm false true (.rng 23) [(.t 6)], none⟩] (some [0, 7])) (
.blk 0 (
  .loop (
    .seq (.reg false [
      ⟨(some 8), none, .prm true false (.nxt false) [(.t 7)], none⟩,
      ⟨(some 9), none, .ext (.t 8) 0, none⟩] (some [0, 7, 9])) (
    .seq (.ite (.t 9) (
      .skip) (
      .exit 0)) (
    .blk 1 (
      .seq (.reg false [
        ⟨(some 10), none, .prm false false .ent [(.t 7)], none⟩,
        ⟨(some 11), none, .ext (.t 10) 0, none⟩,
        ⟨(some 12), none, .ext (.t 10) 1, none⟩,
        ⟨(some 4), none, .mv false (.t 11), none⟩,
        ⟨(some 5), none, .mv false (.t 12), none⟩] (some [0, 4, 5, 7])) (
      .reg false [
        ⟨(some 13), none, .mv false (.t 0), none⟩,
        ⟨(some 14), none, .mv false (.t 4), none⟩,
        ⟨(some 15), none, .mv false (.t 5), none⟩,
        ⟨none, none, .prm false true (.upd 23) [(.t 13), (.t 14), (.t 15)], none⟩] (some [0, 7]))))))))
set_option maxRecDepth 1000000 in
theorem comp_maps_Copy_map_api_ID_api_ID_map_api_ID_api_ID_api_ID_api_ID : (Try.f49.body.bind fun code => compC Try.prog Try.f49.ntmps code c_maps_Copy_map_api_ID_api_ID_map_api_ID_api_ID_api_ID_api_ID) = some c_maps_Copy_map_api_ID_api_ID_map_api_ID_api_ID_api_ID_api_ID.bare := by kernel_rfl
def r_maps_Copy_map_api_ID_api_ID_map_api_ID_api_ID_api_ID_api_ID : List R := []
theorem spo_maps_Copy_map_api_ID_api_ID_map_api_ID_api_ID_api_ID_api_ID {ds : List D} {d : D} (hn : Nat.ble ds.length 16 = true) (h : run TSpC gtab 0 c_maps_Copy_map_api_ID_api_ID_map_api_ID_api_ID_api_ID_api_ID (retK r_maps_Copy_map_api_ID_api_ID_map_api_ID_api_ID_api_ID_api_ID (· = d)) ⟨env0 0 ds, []⟩) : TSp 49 ds d := Sp_of mixed c_maps_Copy_map_api_ID_api_ID_map_api_ID_api_ID_api_ID_api_ID r_maps_Copy_map_api_ID_api_ID_map_api_ID_api_ID_api_ID_api_ID (fn := Try.f49) (by kernel_rfl) (by kernel_rfl) comp_maps_Copy_map_api_ID_api_ID_map_api_ID_api_ID_api_ID_api_ID (by kernel_rfl) hn h
theorem spm_maps_Copy_map_api_ID_api_ID_map_api_ID_api_ID_api_ID_api_ID {ds : List D} {d : D} {bx bx' : List Ent} (hn : Nat.ble ds.length 16 = true) (h : run TSpC gtab (sizeE bx) c_maps_Copy_map_api_ID_api_ID_map_api_ID_api_ID_api_ID_api_ID (retG r_maps_Copy_map_api_ID_api_ID_map_api_ID_api_ID_api_ID_api_ID (fun d1 bx1 => Rt (sizeE bx) bx1 d1 d bx')) ⟨env0 0 ds, bx⟩) : TSpM 49 ds bx d bx' := SpM_of mixed c_maps_Copy_map_api_ID_api_ID_map_api_ID_api_ID_api_ID_api_ID r_maps_Copy_map_api_ID_api_ID_map_api_ID_api_ID_api_ID_api_ID (fn := Try.f49) (by kernel_rfl) (by kernel_rfl) comp_maps_Copy_map_api_ID_api_ID_map_api_ID_api_ID_api_ID_api_ID (by kernel_rfl) hn h
/-- slices.Index[[]glazier/api.ID,glazier/api.ID] -/
def c_slices_Index_api_ID_api_ID : C := .seq (.reg false [
  ⟨(some 4), none, .mv false (.c (.int .i64 0)), none⟩] (some [0, 1])) (
.seq (.seq (.reg false [
  ⟨(some 6), none, .mv false (.t 0), none⟩,
  ⟨(some 7), none, .len false (.t 6), none⟩,
  ⟨(some 8), none, .mv false (.c (.int .i64 0)), none⟩] (some [0, 1, 7, 8])) (
.blk 0 (
  .loop (
    .seq (.reg false [
      ⟨(some 9), none, .bin .lss .i64 (.t 8) (.t 7), none⟩] (some [0, 1, 7, 8, 9])) (
    .seq (.ite (.t 9) (
      .skip) (
      .exit 0)) (
    .seq (.blk 1 (
      .seq (.reg false [
        ⟨(some 10), none, .mv false (.t 8), none⟩,
        ⟨(some 5), none, .mv false (.t 10), none⟩] (some [0, 1, 5, 7, 8])) (
      .seq (.reg false [
        ⟨(some 11), none, .mv false (.t 1), none⟩,
        ⟨(some 12), none, .mv false (.t 0), none⟩,
        ⟨(some 13), none, .mv false (.t 5), none⟩,
        ⟨(some 14), none, .ixs 1 (.t 12) (.t 13), none⟩,
        ⟨(some 15), none, .ld none (.t 14), none⟩,
        ⟨(some 16), none, .bin .eql .u32 (.t 11) (.t 15), none⟩] (some [0, 1, 5, 7, 8, 16])) (
      .ite (.t 16) (
        .seq (.reg false [
          ⟨(some 17), none, .mv false (.t 5), none⟩,
          ⟨(some 4), none, .mv false (.t 17), none⟩] (some [4])) (
        .ret)) (
        .skip))))) (
    .reg false [
      ⟨(some 18), none, .bin .add .i64 (.t 8) (.c (.int .i64 1)), none⟩,
      ⟨(some 8), none, .mv false (.t 18), none⟩] (some [0, 1, 7, 8])))))))) (
.seq (.reg false [
  ⟨(some 4), none, .mv false (.c (.int .i64 (-1))), none⟩] (some [4])) (
.ret)))
set_option maxRecDepth 1000000 in
theorem comp_slices_Index_api_ID_api_ID : (Try.f50.body.bind fun code => compC Try.prog Try.f50.ntmps code c_slices_Index_api_ID_api_ID) = some c_slices_Index_api_ID_api_ID.bare := by kernel_rfl
def r_slices_Index_api_ID_api_ID : List R := [.t 4]
theorem spo_slices_Index_api_ID_api_ID {ds : List D} {d : D} (hn : Nat.ble ds.length 19 = true) (h : run TSpC gtab 0 c_slices_Index_api_ID_api_ID (retK r_slices_Index_api_ID_api_ID (· = d)) ⟨env0 0 ds, []⟩) : TSp 50 ds d := Sp_of mixed c_slices_Index_api_ID_api_ID r_slices_Index_api_ID_api_ID (fn := Try.f50) (by kernel_rfl) (by kernel_rfl) comp_slices_Index_api_ID_api_ID (by kernel_rfl) hn h
theorem spm_slices_Index_api_ID_api_ID {ds : List D} {d : D} {bx bx' : List Ent} (hn : Nat.ble ds.length 19 = true) (h : run TSpC gtab (sizeE bx) c_slices_Index_api_ID_api_ID (retG r_slices_Index_api_ID_api_ID (fun d1 bx1 => Rt (sizeE bx) bx1 d1 d bx')) ⟨env0 0 ds, bx⟩) : TSpM 50 ds bx d bx' := SpM_of mixed c_slices_Index_api_ID_api_ID r_slices_Index_api_ID_api_ID (fn := Try.f50) (by kernel_rfl) (by kernel_rfl) comp_slices_Index_api_ID_api_ID (by kernel_rfl) hn h
/-- (glazier/tree.Tree).take$1 -/
def c_tree_Tree_take_1 : C := .seq (.reg false [
  ⟨(some 3), none, .mv false (.c (.bool false)), none⟩] (some [0, 1])) (
.seq (.reg false [
  ⟨(some 4), none, .mv false (.t 0), none⟩,
  ⟨(some 5), none, .ld none (.t 1), none⟩,
  ⟨(some 6), none, .bin .eql .u32 (.t 4) (.t 5), none⟩,
  ⟨(some 3), none, .mv false (.t 6), none⟩] (some [3])) (
.ret))
set_option maxRecDepth 1000000 in
theorem comp_tree_Tree_take_1 : (Try.f52.body.bind fun code => compC Try.prog Try.f52.ntmps code c_tree_Tree_take_1) = some c_tree_Tree_take_1.bare := by kernel_rfl
def r_tree_Tree_take_1 : List R := [.t 3]
theorem spo_tree_Tree_take_1 {ds : List D} {d : D} (hn : Nat.ble ds.length 7 = true) (h : run TSpC gtab 0 c_tree_Tree_take_1 (retK r_tree_Tree_take_1 (· = d)) ⟨env0 0 ds, []⟩) : TSp 52 ds d := Sp_of mixed c_tree_Tree_take_1 r_tree_Tree_take_1 (fn := Try.f52) (by kernel_rfl) (by kernel_rfl) comp_tree_Tree_take_1 (by kernel_rfl) hn h
theorem spm_tree_Tree_take_1 {ds : List D} {d : D} {bx bx' : List Ent} (hn : Nat.ble ds.length 7 = true) (h : run TSpC gtab (sizeE bx) c_tree_Tree_take_1 (retG r_tree_Tree_take_1 (fun d1 bx1 => Rt (sizeE bx) bx1 d1 d bx')) ⟨env0 0 ds, bx⟩) : TSpM 52 ds bx d bx' := SpM_of mixed c_tree_Tree_take_1 r_tree_Tree_take_1 (fn := Try.f52) (by kernel_rfl) (by kernel_rfl) comp_tree_Tree_take_1 (by kernel_rfl) hn h
/-- glazier/glazierref28.wrong -/
def c_ref28_wrong : C := .seq (.reg false [
  ⟨(some 2), none, .mv false (.c (.int .i64 0)), none⟩] (some [0])) (
.seq (.seq (.reg false [
  ⟨(some 3), none, .mv false (.t 0), none⟩,
  ⟨(some 4), none, .bin .eql .u32 (.t 3) (.c (.int .u32 0)), none⟩] (some [0, 4])) (
.ite (.t 4) (
  .seq (.reg false [
    ⟨(some 2), none, .mv false (.c (.int .i64 6)), none⟩] (some [2])) (
  .ret)) (
  .skip))) (
.seq (.seq (.reg false [
  ⟨(some 5), none, .mv false (.t 0), none⟩,
  ⟨(some 6), none, .bin .neq .u32 (.t 5) (.c (.int .u32 1)), none⟩,
  ⟨(some 7), none, .mv false (.t 6), none⟩,
  ⟨(some 8), some (7, true), .mv false (.t 0), none⟩,
  ⟨(some 9), some (7, true), .bin .shr .u32 (.t 8) (.c (.int .u64 20)), none⟩,
  ⟨(some 10), some (7, true), .bin .lss .u32 (.t 9) (.c (.int .u32 1)), none⟩,
  ⟨(some 11), some (7, true), .mv false (.t 10), none⟩,
  ⟨(some 12), some (11, false), .mv false (.t 0), none⟩,
  ⟨(some 13), some (11, false), .bin .shr .u32 (.t 12) (.c (.int .u64 20)), none⟩,
  ⟨(some 14), some (11, false), .bin .gtr .u32 (.t 13) (.c (.int .u32 8)), none⟩,
  ⟨(some 15), some (7, true), .pick (.t 11) (.c (.bool true)) (.t 14), none⟩,
  ⟨(some 16), some (7, true), .mv false (.t 15), none⟩,
  ⟨(some 17), some (16, false), .mv false (.t 0), none⟩,
  ⟨(some 18), some (16, false), .bin .rem .u32 (.t 17) (.c (.int .u32 1048576)), none⟩,
  ⟨(some 19), some (16, false), .bin .eql .u32 (.t 18) (.c (.int .u32 0)), none⟩,
  ⟨(some 20), some (7, true), .pick (.t 16) (.c (.bool true)) (.t 19), none⟩,
  ⟨(some 21), none, .pick (.t 7) (.t 20) (.c (.bool false)), none⟩] (some [21])) (
.ite (.t 21) (
  .seq (.reg false [
    ⟨(some 2), none, .mv false (.c (.int .i64 1)), none⟩] (some [2])) (
  .ret)) (
  .skip))) (
.seq (.reg false [
  ⟨(some 2), none, .mv false (.c (.int .i64 0)), none⟩] (some [2])) (
.ret))))
set_option maxRecDepth 1000000 in
theorem comp_ref28_wrong : (Try.f53.body.bind fun code => compC Try.prog Try.f53.ntmps code c_ref28_wrong) = some c_ref28_wrong.bare := by kernel_rfl
def r_ref28_wrong : List R := [.t 2]
theorem spo_ref28_wrong {ds : List D} {d : D} (hn : Nat.ble ds.length 22 = true) (h : run TSpC gtab 0 c_ref28_wrong (retK r_ref28_wrong (· = d)) ⟨env0 0 ds, []⟩) : TSp 53 ds d := Sp_of mixed c_ref28_wrong r_ref28_wrong (fn := Try.f53) (by kernel_rfl) (by kernel_rfl) comp_ref28_wrong (by kernel_rfl) hn h
theorem spm_ref28_wrong {ds : List D} {d : D} {bx bx' : List Ent} (hn : Nat.ble ds.length 22 = true) (h : run TSpC gtab (sizeE bx) c_ref28_wrong (retG r_ref28_wrong (fun d1 bx1 => Rt (sizeE bx) bx1 d1 d bx')) ⟨env0 0 ds, bx⟩) : TSpM 53 ds bx d bx' := SpM_of mixed c_ref28_wrong r_ref28_wrong (fn := Try.f53) (by kernel_rfl) (by kernel_rfl) comp_ref28_wrong (by kernel_rfl) hn h
/-- glazier/glazierref28.after -/
def c_ref28_after : C := .seq (.reg false [
  ⟨(some 4), none, .nilS 28 1, none⟩] (some [0, 1])) (
.seq (.reg false [
  ⟨(some 5), none, .nilS 28 1, none⟩] (some [0, 1, 5])) (
.seq (.reg false [
  ⟨(some 8), none, .mv false (.t 0), none⟩,
  ⟨(some 9), none, .mv false (.t 1), none⟩,
  ⟨(some 10), none, .call false 24 [(.t 8), (.t 9)], none⟩,
  ⟨(some 6), none, .mv false (.t 10), none⟩] (some [0, 1, 5, 6])) (
.seq (.seq (.reg false [
  ⟨(some 7), none, .mv false (.c (.int .i64 0)), none⟩] (some [0, 1, 5, 6, 7])) (
.blk 0 (
  .loop (
    .seq (.seq (.reg false [
      ⟨(some 11), none, .mv false (.t 7), none⟩,
      ⟨(some 12), none, .mv false (.t 6), none⟩,
      ⟨(some 13), none, .len false (.t 12), none⟩,
      ⟨(some 14), none, .bin .lss .i64 (.t 11) (.t 13), none⟩] (some [0, 1, 5, 6, 7, 14])) (
    .ite (.t 14) (
      .skip) (
      .exit 0))) (
    .seq (.blk 1 (
      .reg false [
        ⟨(some 17), none, .mv false (.t 5), none⟩,
        ⟨(some 18), none, .mv false (.t 0), none⟩,
        ⟨(some 19), none, .mv false (.t 6), none⟩,
        ⟨(some 20), none, .mv false (.t 7), none⟩,
        ⟨(some 21), none, .ixs 1 (.t 19) (.t 20), none⟩,
        ⟨(some 22), none, .ld none (.t 21), none⟩,
        ⟨(some 23), none, .call false 54 [(.t 18), (.t 22)], none⟩,
        ⟨(some 24), none, .app 28 1 4 (.t 17) (.t 23), none⟩,
        ⟨(some 5), none, .mv false (.t 24), none⟩] (some [0, 1, 5, 6, 7]))) (
    .reg false [
      ⟨(some 15), none, .mv false (.t 7), none⟩,
      ⟨(some 16), none, .bin .add .i64 (.t 15) (.c (.int .i64 1)), none⟩,
      ⟨(some 7), none, .mv false (.t 16), none⟩] (some [0, 1, 5, 6, 7]))))))) (
.seq (.reg false [
  ⟨(some 25), none, .mv false (.t 5), none⟩,
  ⟨(some 26), none, .mv false (.t 1), none⟩,
  ⟨(some 27), none, .bsl none 28 1 none [(.t 26)], none⟩,
  ⟨(some 28), none, .app 28 1 4 (.t 25) (.t 27), none⟩,
  ⟨(some 4), none, .mv false (.t 28), none⟩] (some [4])) (
.ret)))))
set_option maxRecDepth 1000000 in
theorem comp_ref28_after : (Try.f54.body.bind fun code => compC Try.prog Try.f54.ntmps code c_ref28_after) = some c_ref28_after.bare := by kernel_rfl
def r_ref28_after : List R := [.t 4]
theorem spo_ref28_after {ds : List D} {d : D} (hn : Nat.ble ds.length 29 = true) (h : run TSpC gtab 0 c_ref28_after (retK r_ref28_after (· = d)) ⟨env0 0 ds, []⟩) : TSp 54 ds d := Sp_of mixed c_ref28_after r_ref28_after (fn := Try.f54) (by kernel_rfl) (by kernel_rfl) comp_ref28_after (by kernel_rfl) hn h
theorem spm_ref28_after {ds : List D} {d : D} {bx bx' : List Ent} (hn : Nat.ble ds.length 29 = true) (h : run TSpC gtab (sizeE bx) c_ref28_after (retG r_ref28_after (fun d1 bx1 => Rt (sizeE bx) bx1 d1 d bx')) ⟨env0 0 ds, bx⟩) : TSpM 54 ds bx d bx' := SpM_of mixed c_ref28_after r_ref28_after (fn := Try.f54) (by kernel_rfl) (by kernel_rfl) comp_ref28_after (by kernel_rfl) hn h
/-- glazier/glazierref28.without -/
def c_ref28_without : C := .seq (.reg false [
  ⟨(some 4), none, .nilS 67 2, none⟩] (some [0, 1])) (
.seq (.reg false [
  ⟨(some 5), none, .nilS 67 2, none⟩] (some [0, 1, 5])) (
.seq (.seq (.reg false [
  ⟨(some 6), none, .mv false (.c (.int .i64 0)), none⟩] (some [0, 1, 5, 6])) (
.blk 0 (
  .loop (
    .seq (.seq (.reg false [
      ⟨(some 7), none, .mv false (.t 6), none⟩,
      ⟨(some 8), none, .mv false (.t 0), none⟩,
      ⟨(some 9), none, .len false (.t 8), none⟩,
      ⟨(some 10), none, .bin .lss .i64 (.t 7) (.t 9), none⟩] (some [0, 1, 5, 6, 10])) (
    .ite (.t 10) (
      .skip) (
      .exit 0))) (
    .seq (.blk 1 (
      .seq (.reg false [
        ⟨(some 13), none, .mv false (.t 0), none⟩,
        ⟨(some 14), none, .mv false (.t 6), none⟩,
        ⟨(some 15), none, .ixs 2 (.t 13) (.t 14), none⟩,
        ⟨(some 16), none, .fld 0 (.t 15), none⟩,
        ⟨(some 17), none, .ld none (.t 16), none⟩,
        ⟨(some 18), none, .mv false (.t 1), none⟩,
        ⟨(some 19), none, .bin .neq .u32 (.t 17) (.t 18), none⟩] (some [0, 1, 5, 6, 19])) (
      .ite (.t 19) (
        .reg false [
          ⟨(some 20), none, .mv false (.t 5), none⟩,
          ⟨(some 21), none, .mv false (.t 0), none⟩,
          ⟨(some 22), none, .mv false (.t 6), none⟩,
          ⟨(some 23), none, .ixs 2 (.t 21) (.t 22), none⟩,
          ⟨(some 24), none, .ld (some 2) (.t 23), none⟩,
          ⟨(some 25), none, .bsl none 67 2 (some 2) [(.t 24)], none⟩,
          ⟨(some 26), none, .app 67 2 8 (.t 20) (.t 25), none⟩,
          ⟨(some 5), none, .mv false (.t 26), none⟩] (some [0, 1, 5, 6])) (
        .skip)))) (
    .reg false [
      ⟨(some 11), none, .mv false (.t 6), none⟩,
      ⟨(some 12), none, .bin .add .i64 (.t 11) (.c (.int .i64 1)), none⟩,
      ⟨(some 6), none, .mv false (.t 12), none⟩] (some [0, 1, 5, 6]))))))) (
.seq (.reg false [
  ⟨(some 27), none, .mv false (.t 5), none⟩,
  ⟨(some 4), none, .mv false (.t 27), none⟩] (some [4])) (
.ret))))
set_option maxRecDepth 1000000 in
theorem comp_ref28_without : (Try.f55.body.bind fun code => compC Try.prog Try.f55.ntmps code c_ref28_without) = some c_ref28_without.bare := by kernel_rfl
def r_ref28_without : List R := [.t 4]
theorem spo_ref28_without {ds : List D} {d : D} (hn : Nat.ble ds.length 28 = true) (h : run TSpC gtab 0 c_ref28_without (retK r_ref28_without (· = d)) ⟨env0 0 ds, []⟩) : TSp 55 ds d := Sp_of mixed c_ref28_without r_ref28_without (fn := Try.f55) (by kernel_rfl) (by kernel_rfl) comp_ref28_without (by kernel_rfl) hn h
theorem spm_ref28_without {ds : List D} {d : D} {bx bx' : List Ent} (hn : Nat.ble ds.length 28 = true) (h : run TSpC gtab (sizeE bx) c_ref28_without (retG r_ref28_without (fun d1 bx1 => Rt (sizeE bx) bx1 d1 d bx')) ⟨env0 0 ds, bx⟩) : TSpM 55 ds bx d bx' := SpM_of mixed c_ref28_without r_ref28_without (fn := Try.f55) (by kernel_rfl) (by kernel_rfl) comp_ref28_without (by kernel_rfl) hn h
/-- glazier/ident.isClient -/
def c_ident_isClient : C := .seq (.reg false [
  ⟨(some 2), none, .mv false (.c (.bool false)), none⟩] (some [0])) (
.seq (.reg false [
  ⟨(some 3), none, .mv false (.t 0), none⟩,
  ⟨(some 4), none, .bin .leq .i64 (.c (.int .i64 1)) (.t 3), none⟩,
  ⟨(some 5), none, .mv false (.t 4), none⟩,
  ⟨(some 6), some (5, true), .mv false (.t 0), none⟩,
  ⟨(some 7), some (5, true), .bin .leq .i64 (.t 6) (.c (.int .i64 8)), none⟩,
  ⟨(some 8), none, .pick (.t 5) (.t 7) (.c (.bool false)), none⟩,
  ⟨(some 2), none, .mv false (.t 8), none⟩] (some [2])) (
.ret))
set_option maxRecDepth 1000000 in
theorem comp_ident_isClient : (Try.f58.body.bind fun code => compC Try.prog Try.f58.ntmps code c_ident_isClient) = some c_ident_isClient.bare := by kernel_rfl
def r_ident_isClient : List R := [.t 2]
theorem spo_ident_isClient {ds : List D} {d : D} (hn : Nat.ble ds.length 9 = true) (h : run TSpC gtab 0 c_ident_isClient (retK r_ident_isClient (· = d)) ⟨env0 0 ds, []⟩) : TSp 58 ds d := Sp_of mixed c_ident_isClient r_ident_isClient (fn := Try.f58) (by kernel_rfl) (by kernel_rfl) comp_ident_isClient (by kernel_rfl) hn h
theorem spm_ident_isClient {ds : List D} {d : D} {bx bx' : List Ent} (hn : Nat.ble ds.length 9 = true) (h : run TSpC gtab (sizeE bx) c_ident_isClient (retG r_ident_isClient (fun d1 bx1 => Rt (sizeE bx) bx1 d1 d bx')) ⟨env0 0 ds, bx⟩) : TSpM 58 ds bx d bx' := SpM_of mixed c_ident_isClient r_ident_isClient (fn := Try.f58) (by kernel_rfl) (by kernel_rfl) comp_ident_isClient (by kernel_rfl) hn h
/-- glazier/glazierlaw28.awake -/
def c_law28_awake : C := .seq (.reg false [
  ⟨(some 0), none, .mv false (.c (.bool false)), none⟩] (some [])) (
.seq (.reg false [
  ⟨(some 14), none, .call false 10 [], none⟩,
  ⟨(some 15), none, .call false 11 [(.t 14), (.c (.int .u32 1048577)), (.c (.int .u32 1))], none⟩,
  ⟨(some 13), none, .mv false (.t 15), none⟩,
  ⟨(some 16), none, .ext (.t 13) 0, none⟩,
  ⟨(some 17), none, .ext (.t 13) 1, none⟩,
  ⟨(some 1), none, .alloc [(.mp [] []), (.mp [] [])], none⟩,
  ⟨none, none, .st (some 2) (.t 1) (.t 16), none⟩,
  ⟨(some 2), none, .mv false (.t 17), none⟩] (some [1, 2])) (
.seq (.reg false [
  ⟨(some 19), none, .ld (some 2) (.t 1), none⟩,
  ⟨(some 20), none, .call false 11 [(.t 19), (.c (.int .u32 1048578)), (.c (.int .u32 1))], none⟩,
  ⟨(some 18), none, .mv false (.t 20), none⟩,
  ⟨(some 21), none, .ext (.t 18) 0, none⟩,
  ⟨(some 22), none, .ext (.t 18) 1, none⟩,
  ⟨none, none, .st (some 2) (.t 1) (.t 21), none⟩,
  ⟨(some 3), none, .mv false (.t 22), none⟩] (some [1, 2, 3])) (
.seq (.reg false [
  ⟨(some 24), none, .ld (some 2) (.t 1), none⟩,
  ⟨(some 25), none, .call false 11 [(.t 24), (.c (.int .u32 1048579)), (.c (.int .u32 1))], none⟩,
  ⟨(some 23), none, .mv false (.t 25), none⟩,
  ⟨(some 26), none, .ext (.t 23) 0, none⟩,
  ⟨(some 27), none, .ext (.t 23) 1, none⟩,
  ⟨none, none, .st (some 2) (.t 1) (.t 26), none⟩,
  ⟨(some 4), none, .mv false (.t 27), none⟩] (some [1, 2, 3, 4])) (
.seq (.reg false [
  ⟨(some 29), none, .ld (some 2) (.t 1), none⟩,
  ⟨(some 30), none, .call false 11 [(.t 29), (.c (.int .u32 1048580)), (.c (.int .u32 1048578))], none⟩,
  ⟨(some 28), none, .mv false (.t 30), none⟩,
  ⟨(some 31), none, .ext (.t 28) 0, none⟩,
  ⟨(some 32), none, .ext (.t 28) 1, none⟩,
  ⟨none, none, .st (some 2) (.t 1) (.t 31), none⟩,
  ⟨(some 5), none, .mv false (.t 32), none⟩] (some [1, 2, 3, 4, 5])) (
.seq (.reg false [
  ⟨(some 34), none, .ld (some 2) (.t 1), none⟩,
  ⟨(some 35), none, .call false 31 [(.t 34), (.c (.int .u32 1048577)), (.c (.int .i64 2))], none⟩,
  ⟨(some 33), none, .mv false (.t 35), none⟩,
  ⟨(some 36), none, .ext (.t 33) 0, none⟩,
  ⟨(some 37), none, .ext (.t 33) 1, none⟩,
  ⟨(some 6), none, .alloc [(.mp [] []), (.mp [] [])], none⟩,
  ⟨none, none, .st (some 2) (.t 6) (.t 36), none⟩,
  ⟨(some 7), none, .mv false (.t 37), none⟩] (some [1, 2, 3, 4, 5, 6, 7])) (
.seq (.reg false [
  ⟨(some 39), none, .ld (some 2) (.t 1), none⟩,
  ⟨(some 40), none, .call false 30 [(.t 39), (.c (.int .u32 1048578))], none⟩,
  ⟨(some 38), none, .mv false (.t 40), none⟩,
  ⟨(some 41), none, .ext (.t 38) 0, none⟩,
  ⟨(some 42), none, .ext (.t 38) 1, none⟩,
  ⟨(some 43), none, .ext (.t 38) 2, none⟩,
  ⟨(some 8), none, .alloc [(.mp [] []), (.mp [] [])], none⟩,
  ⟨none, none, .st (some 2) (.t 8) (.t 41), none⟩,
  ⟨(some 9), none, .mv false (.t 42), none⟩,
  ⟨(some 10), none, .mv false (.t 43), none⟩] (some [1, 2, 3, 4, 5, 6, 7, 9, 10])) (
.seq (.reg false [
  ⟨(some 45), none, .ld (some 2) (.t 1), none⟩,
  ⟨(some 46), none, .call false 18 [(.t 45), (.c (.int .u32 1048580)), (.c (.int .u32 1048579))], none⟩,
  ⟨(some 44), none, .mv false (.t 46), none⟩,
  ⟨(some 47), none, .ext (.t 44) 0, none⟩,
  ⟨(some 48), none, .ext (.t 44) 1, none⟩,
  ⟨(some 11), none, .mv false (.t 47), none⟩,
  ⟨(some 12), none, .mv false (.t 48), none⟩] (some [1, 2, 3, 4, 5, 6, 7, 9, 10, 11, 12])) (
.seq (.reg false [
  ⟨(some 49), none, .mv false (.t 2), none⟩,
  ⟨(some 50), none, .bin .eql .i64 (.t 49) (.c (.int .i64 0)), none⟩,
  ⟨(some 51), none, .mv false (.t 50), none⟩,
  ⟨(some 52), some (51, true), .mv false (.t 3), none⟩,
  ⟨(some 53), some (51, true), .bin .eql .i64 (.t 52) (.c (.int .i64 0)), none⟩,
  ⟨(some 54), none, .pick (.t 51) (.t 53) (.c (.bool false)), none⟩,
  ⟨(some 55), none, .mv false (.t 54), none⟩,
  ⟨(some 56), some (55, true), .mv false (.t 4), none⟩,
  ⟨(some 57), some (55, true), .bin .eql .i64 (.t 56) (.c (.int .i64 0)), none⟩,
  ⟨(some 58), none, .pick (.t 55) (.t 57) (.c (.bool false)), none⟩,
  ⟨(some 59), none, .mv false (.t 58), none⟩,
  ⟨(some 60), some (59, true), .mv false (.t 5), none⟩,
  ⟨(some 61), some (59, true), .bin .eql .i64 (.t 60) (.c (.int .i64 0)), none⟩,
  ⟨(some 62), none, .pick (.t 59) (.t 61) (.c (.bool false)), none⟩,
  ⟨(some 63), none, .mv false (.t 62), none⟩,
  ⟨(some 64), some (63, true), .mv false (.t 7), none⟩,
  ⟨(some 65), some (63, true), .bin .eql .i64 (.t 64) (.c (.int .i64 0)), none⟩,
  ⟨(some 66), none, .pick (.t 63) (.t 65) (.c (.bool false)), none⟩,
  ⟨(some 67), none, .mv false (.t 66), none⟩,
  ⟨(some 68), some (67, true), .mv false (.t 10), none⟩,
  ⟨(some 69), some (67, true), .bin .eql .i64 (.t 68) (.c (.int .i64 0)), none⟩,
  ⟨(some 70), none, .pick (.t 67) (.t 69) (.c (.bool false)), none⟩,
  ⟨(some 71), none, .mv false (.t 70), none⟩,
  ⟨(some 72), some (71, true), .ld (some 2) (.t 1), none⟩,
  ⟨(some 73), some (71, true), .call false 14 [(.t 72), (.c (.int .u32 1))], none⟩,
  ⟨(some 74), some (71, true), .bsl none 28 1 none [(.c (.int .u32 1)), (.c (.int .u32 1048577)), (.c (.int .u32 1048578)), (.c (.int .u32 1048580)), (.c (.int .u32 1048579))], none⟩,
  ⟨(some 75), some (71, true), .call false 17 [(.t 73), (.t 74)], none⟩,
  ⟨(some 76), none, .pick (.t 71) (.t 75) (.c (.bool false)), none⟩,
  ⟨(some 77), none, .mv false (.t 76), none⟩,
  ⟨(some 78), some (77, true), .ld (some 2) (.t 6), none⟩,
  ⟨(some 79), some (77, true), .call false 14 [(.t 78), (.c (.int .u32 1))], none⟩,
  ⟨(some 80), some (77, true), .bsl none 28 1 none [(.c (.int .u32 1)), (.c (.int .u32 1048578)), (.c (.int .u32 1048580)), (.c (.int .u32 1048579)), (.c (.int .u32 1048577))], none⟩,
  ⟨(some 81), some (77, true), .call false 17 [(.t 79), (.t 80)], none⟩,
  ⟨(some 82), none, .pick (.t 77) (.t 81) (.c (.bool false)), none⟩,
  ⟨(some 83), none, .mv false (.t 82), none⟩,
  ⟨(some 84), some (83, true), .mv false (.t 9), none⟩,
  ⟨(some 85), some (83, true), .bsl none 28 1 none [(.c (.int .u32 1048580)), (.c (.int .u32 1048578))], none⟩,
  ⟨(some 86), some (83, true), .call false 17 [(.t 84), (.t 85)], none⟩,
  ⟨(some 87), none, .pick (.t 83) (.t 86) (.c (.bool false)), none⟩,
  ⟨(some 88), none, .mv false (.t 87), none⟩,
  ⟨(some 89), some (88, true), .mv false (.t 12), none⟩,
  ⟨(some 90), none, .pick (.t 88) (.t 89) (.c (.bool false)), none⟩,
  ⟨(some 91), none, .mv false (.t 90), none⟩,
  ⟨(some 92), some (91, true), .mv false (.t 11), none⟩,
  ⟨(some 93), some (91, true), .bin .eql .u32 (.t 92) (.c (.int .u32 1)), none⟩,
  ⟨(some 94), none, .pick (.t 91) (.t 93) (.c (.bool false)), none⟩,
  ⟨(some 0), none, .mv false (.t 94), none⟩] (some [0])) (
.ret)))))))))
set_option maxRecDepth 1000000 in
theorem comp_law28_awake : (Try.f13.body.bind fun code => compC Try.prog Try.f13.ntmps code c_law28_awake) = some c_law28_awake.bare := by kernel_rfl
def r_law28_awake : List R := [.t 0]
theorem spo_law28_awake {ds : List D} {d : D} (hn : Nat.ble ds.length 95 = true) (h : run TSpC gtab 0 c_law28_awake (retK r_law28_awake (· = d)) ⟨env0 0 ds, []⟩) : TSp 13 ds d := Sp_of mixed c_law28_awake r_law28_awake (fn := Try.f13) (by kernel_rfl) (by kernel_rfl) comp_law28_awake (by kernel_rfl) hn h
theorem spm_law28_awake {ds : List D} {d : D} {bx bx' : List Ent} (hn : Nat.ble ds.length 95 = true) (h : run TSpC gtab (sizeE bx) c_law28_awake (retG r_law28_awake (fun d1 bx1 => Rt (sizeE bx) bx1 d1 d bx')) ⟨env0 0 ds, bx⟩) : TSpM 13 ds bx d bx' := SpM_of mixed c_law28_awake r_law28_awake (fn := Try.f13) (by kernel_rfl) (by kernel_rfl) comp_law28_awake (by kernel_rfl) hn h
/-- glazier/glazierlaw28.grown -/
def c_law28_grown : C := .seq (.reg false [
  ⟨(some 2), none, .alloc [(.mp [] []), (.mp [] [])], none⟩,
  ⟨(some 3), none, .nilS 67 2, none⟩,
  ⟨(some 4), none, .mv false (.c (.bool false)), none⟩] (some [0, 2])) (
.seq (.reg false [
  ⟨(some 9), none, .call false 10 [], none⟩,
  ⟨(some 5), none, .alloc [(.mp [] []), (.mp [] [])], none⟩,
  ⟨none, none, .st (some 2) (.t 5) (.t 9), none⟩] (some [0, 2, 5])) (
.seq (.reg false [
  ⟨(some 6), none, .nilS 67 2, none⟩] (some [0, 2, 5, 6])) (
.seq (.seq (.reg false [
  ⟨(some 10), none, .mv false (.t 0), none⟩,
  ⟨(some 11), none, .len false (.t 10), none⟩,
  ⟨(some 12), none, .bin .gtr .i64 (.t 11) (.c (.int .i64 60)), none⟩] (some [0, 2, 5, 6, 12])) (
.ite (.t 12) (
  .seq (.reg false [
    ⟨(some 13), none, .ld (some 2) (.t 5), none⟩,
    ⟨(some 14), none, .mv true (.t 6), none⟩,
    ⟨none, none, .st (some 2) (.t 2) (.t 13), none⟩,
    ⟨(some 3), none, .mv false (.t 14), none⟩,
    ⟨(some 4), none, .mv false (.c (.bool false)), none⟩] (some [2, 3, 4])) (
  .ret)) (
  .skip))) (
.seq (.seq (.reg false [
  ⟨(some 15), none, .mv false (.t 0), none⟩,
  ⟨(some 16), none, .len false (.t 15), none⟩,
  ⟨(some 17), none, .mv false (.c (.int .i64 0)), none⟩] (some [2, 5, 6, 15, 16, 17])) (
.blk 0 (
  .loop (
    .seq (.reg false [
      ⟨(some 18), none, .bin .lss .i64 (.t 17) (.t 16), none⟩] (some [2, 5, 6, 15, 16, 17, 18])) (
    .seq (.ite (.t 18) (
      .skip) (
      .exit 0)) (
    .seq (.blk 1 (
      .seq (.reg false [
        ⟨(some 19), none, .ixs 4 (.t 15) (.t 17), none⟩,
        ⟨(some 20), none, .ld (some 4) (.t 19), none⟩,
        ⟨(some 8), none, .alloc [(.int .u8 0), (.int .u32 0), (.int .u32 0), (.int .i64 0)], none⟩,
        ⟨none, none, .st (some 4) (.t 8) (.t 20), none⟩] (some [2, 5, 6, 8, 15, 16, 17])) (
      .seq (.reg false [
        ⟨(some 22), none, .ld (some 2) (.t 5), none⟩,
        ⟨(some 23), none, .ld (some 4) (.t 8), none⟩,
        ⟨(some 24), none, .call false 27 [(.t 22), (.t 23)], none⟩,
        ⟨(some 21), none, .mv false (.t 24), none⟩,
        ⟨(some 25), none, .ext (.t 21) 0, none⟩,
        ⟨(some 26), none, .ext (.t 21) 1, none⟩,
        ⟨(some 27), none, .ext (.t 21) 2, none⟩,
        ⟨none, none, .st (some 2) (.t 5) (.t 25), none⟩] (some [2, 5, 6, 8, 15, 16, 17])) (
      .reg false [
        ⟨(some 29), none, .mv true (.t 6), none⟩,
        ⟨(some 30), none, .ld (some 4) (.t 8), none⟩,
        ⟨(some 31), none, .call false 28 [(.t 29), (.t 30)], none⟩,
        ⟨(some 28), none, .mv false (.t 31), none⟩,
        ⟨(some 32), none, .ext (.t 28) 0, none⟩,
        ⟨(some 33), none, .ext (.t 28) 1, none⟩,
        ⟨(some 34), none, .ext (.t 28) 2, none⟩,
        ⟨(some 6), none, .mv false (.t 32), none⟩] (some [2, 5, 6, 15, 16, 17]))))) (
    .reg false [
      ⟨(some 35), none, .bin .add .i64 (.t 17) (.c (.int .i64 1)), none⟩,
      ⟨(some 17), none, .mv false (.t 35), none⟩] (some [2, 5, 6, 15, 16, 17])))))))) (
.seq (.reg false [
  ⟨(some 36), none, .ld (some 2) (.t 5), none⟩,
  ⟨(some 37), none, .mv true (.t 6), none⟩,
  ⟨none, none, .st (some 2) (.t 2) (.t 36), none⟩,
  ⟨(some 3), none, .mv false (.t 37), none⟩,
  ⟨(some 4), none, .mv false (.c (.bool true)), none⟩] (some [2, 3, 4])) (
.ret))))))
set_option maxRecDepth 1000000 in
theorem comp_law28_grown : (Try.f15.body.bind fun code => compC Try.prog Try.f15.ntmps code c_law28_grown) = some c_law28_grown.bare := by kernel_rfl
def r_law28_grown : List R := [.cell 2 (some 2), .t 3, .t 4]
theorem spo_law28_grown {ds : List D} {d : D} (hn : Nat.ble ds.length 38 = true) (h : run TSpC gtab 0 c_law28_grown (retK r_law28_grown (· = d)) ⟨env0 0 ds, []⟩) : TSp 15 ds d := Sp_of mixed c_law28_grown r_law28_grown (fn := Try.f15) (by kernel_rfl) (by kernel_rfl) comp_law28_grown (by kernel_rfl) hn h
theorem spm_law28_grown {ds : List D} {d : D} {bx bx' : List Ent} (hn : Nat.ble ds.length 38 = true) (h : run TSpC gtab (sizeE bx) c_law28_grown (retG r_law28_grown (fun d1 bx1 => Rt (sizeE bx) bx1 d1 d bx')) ⟨env0 0 ds, bx⟩) : TSpM 15 ds bx d bx' := SpM_of mixed c_law28_grown r_law28_grown (fn := Try.f15) (by kernel_rfl) (by kernel_rfl) comp_law28_grown (by kernel_rfl) hn h
/-- glazier/glazierlaw28.Do -/
def c_law28_Do : C := .seq (.reg false [
  ⟨(some 2), none, .box true (.t 0), none⟩,
  ⟨(some 3), none, .box true (.t 1), none⟩,
  ⟨(some 4), none, .alloc [(.mp [] []), (.mp [] [])], none⟩,
  ⟨(some 5), none, .nilS 28 1, none⟩,
  ⟨(some 6), none, .mv false (.c (.int .i64 0)), none⟩] (some [2, 3, 4])) (
.seq (.seq (.reg false [
  ⟨(some 13), none, .fld 0 (.t 3), none⟩,
  ⟨(some 14), none, .ld none (.t 13), none⟩,
  ⟨(some 15), none, .bin .rem .u8 (.t 14) (.c (.int .u8 4)), none⟩] (some [2, 3, 4, 15])) (
.blk 0 (
  .seq (.reg false [
    ⟨(some 17), none, .bin .eql .u8 (.t 15) (.c (.int .u8 0)), none⟩,
    ⟨(some 16), none, .mv false (.t 17), none⟩] (some [2, 3, 4, 15, 16])) (
  .ite (.t 16) (
    .seq (.reg false [
      ⟨(some 19), none, .ld (some 2) (.t 2), none⟩,
      ⟨(some 20), none, .fld 1 (.t 3), none⟩,
      ⟨(some 21), none, .ld none (.t 20), none⟩,
      ⟨(some 22), none, .fld 2 (.t 3), none⟩,
      ⟨(some 23), none, .ld none (.t 22), none⟩,
      ⟨(some 24), none, .call false 11 [(.t 19), (.t 21), (.t 23)], none⟩,
      ⟨(some 18), none, .mv false (.t 24), none⟩,
      ⟨(some 25), none, .ext (.t 18) 0, none⟩,
      ⟨(some 26), none, .ext (.t 18) 1, none⟩,
      ⟨(some 7), none, .alloc [(.mp [] []), (.mp [] [])], none⟩,
      ⟨none, none, .st (some 2) (.t 7) (.t 25), none⟩,
      ⟨(some 8), none, .mv false (.t 26), none⟩] (some [4, 7, 8])) (
    .seq (.reg false [
      ⟨(some 27), none, .ld (some 2) (.t 7), none⟩,
      ⟨(some 28), none, .mv false (.t 8), none⟩,
      ⟨none, none, .st (some 2) (.t 4) (.t 27), none⟩,
      ⟨(some 5), none, .nilS 28 1, none⟩,
      ⟨(some 6), none, .mv false (.t 28), none⟩] (some [4, 5, 6])) (
    .ret))) (
    .seq (.reg false [
      ⟨(some 30), none, .bin .eql .u8 (.t 15) (.c (.int .u8 1)), none⟩,
      ⟨(some 29), none, .mv false (.t 30), none⟩] (some [2, 3, 4, 15, 29])) (
    .ite (.t 29) (
      .seq (.reg false [
        ⟨(some 31), none, .ld (some 2) (.t 2), none⟩,
        ⟨(some 32), none, .fld 1 (.t 3), none⟩,
        ⟨(some 33), none, .ld none (.t 32), none⟩,
        ⟨(some 34), none, .call false 30 [(.t 31), (.t 33)], none⟩,
        ⟨(some 35), none, .ext (.t 34) 0, none⟩,
        ⟨(some 36), none, .ext (.t 34) 1, none⟩,
        ⟨(some 37), none, .ext (.t 34) 2, none⟩,
        ⟨none, none, .st (some 2) (.t 4) (.t 35), none⟩,
        ⟨(some 5), none, .mv false (.t 36), none⟩,
        ⟨(some 6), none, .mv false (.t 37), none⟩] (some [4, 5, 6])) (
      .ret)) (
      .seq (.reg false [
        ⟨(some 39), none, .bin .eql .u8 (.t 15) (.c (.int .u8 2)), none⟩,
        ⟨(some 38), none, .mv false (.t 39), none⟩] (some [2, 3, 4, 38])) (
      .ite (.t 38) (
        .seq (.reg false [
          ⟨(some 41), none, .ld (some 2) (.t 2), none⟩,
          ⟨(some 42), none, .fld 1 (.t 3), none⟩,
          ⟨(some 43), none, .ld none (.t 42), none⟩,
          ⟨(some 44), none, .fld 2 (.t 3), none⟩,
          ⟨(some 45), none, .ld none (.t 44), none⟩,
          ⟨(some 46), none, .call false 16 [(.t 41), (.t 43), (.t 45)], none⟩,
          ⟨(some 40), none, .mv false (.t 46), none⟩,
          ⟨(some 47), none, .ext (.t 40) 0, none⟩,
          ⟨(some 48), none, .ext (.t 40) 1, none⟩,
          ⟨(some 9), none, .alloc [(.mp [] []), (.mp [] [])], none⟩,
          ⟨none, none, .st (some 2) (.t 9) (.t 47), none⟩,
          ⟨(some 10), none, .mv false (.t 48), none⟩] (some [4, 9, 10])) (
        .seq (.reg false [
          ⟨(some 49), none, .ld (some 2) (.t 9), none⟩,
          ⟨(some 50), none, .mv false (.t 10), none⟩,
          ⟨none, none, .st (some 2) (.t 4) (.t 49), none⟩,
          ⟨(some 5), none, .nilS 28 1, none⟩,
          ⟨(some 6), none, .mv false (.t 50), none⟩] (some [4, 5, 6])) (
        .ret))) (
        .skip))))))))) (
.seq (.reg false [
  ⟨(some 52), none, .ld (some 2) (.t 2), none⟩,
  ⟨(some 53), none, .fld 1 (.t 3), none⟩,
  ⟨(some 54), none, .ld none (.t 53), none⟩,
  ⟨(some 55), none, .fld 3 (.t 3), none⟩,
  ⟨(some 56), none, .ld none (.t 55), none⟩,
  ⟨(some 57), none, .call false 31 [(.t 52), (.t 54), (.t 56)], none⟩,
  ⟨(some 51), none, .mv false (.t 57), none⟩,
  ⟨(some 58), none, .ext (.t 51) 0, none⟩,
  ⟨(some 59), none, .ext (.t 51) 1, none⟩,
  ⟨(some 11), none, .alloc [(.mp [] []), (.mp [] [])], none⟩,
  ⟨none, none, .st (some 2) (.t 11) (.t 58), none⟩,
  ⟨(some 12), none, .mv false (.t 59), none⟩] (some [4, 11, 12])) (
.seq (.reg false [
  ⟨(some 60), none, .ld (some 2) (.t 11), none⟩,
  ⟨(some 61), none, .mv false (.t 12), none⟩,
  ⟨none, none, .st (some 2) (.t 4) (.t 60), none⟩,
  ⟨(some 5), none, .nilS 28 1, none⟩,
  ⟨(some 6), none, .mv false (.t 61), none⟩] (some [4, 5, 6])) (
.ret))))
set_option maxRecDepth 1000000 in
theorem comp_law28_Do : (Try.f27.body.bind fun code => compC Try.prog Try.f27.ntmps code c_law28_Do) = some c_law28_Do.bare := by kernel_rfl
def r_law28_Do : List R := [.cell 4 (some 2), .t 5, .t 6]
theorem spo_law28_Do {ds : List D} {d : D} (hn : Nat.ble ds.length 62 = true) (h : run TSpC gtab 0 c_law28_Do (retK r_law28_Do (· = d)) ⟨env0 0 ds, []⟩) : TSp 27 ds d := Sp_of mixed c_law28_Do r_law28_Do (fn := Try.f27) (by kernel_rfl) (by kernel_rfl) comp_law28_Do (by kernel_rfl) hn h
theorem spm_law28_Do {ds : List D} {d : D} {bx bx' : List Ent} (hn : Nat.ble ds.length 62 = true) (h : run TSpC gtab (sizeE bx) c_law28_Do (retG r_law28_Do (fun d1 bx1 => Rt (sizeE bx) bx1 d1 d bx')) ⟨env0 0 ds, bx⟩) : TSpM 27 ds bx d bx' := SpM_of mixed c_law28_Do r_law28_Do (fn := Try.f27) (by kernel_rfl) (by kernel_rfl) comp_law28_Do (by kernel_rfl) hn h
/-- glazier/glazierlaw28.Plain -/
def c_law28_Plain : C := .seq (.reg false [
  ⟨(some 3), none, .box true (.t 1), none⟩,
  ⟨(some 4), none, .nilS 67 2, none⟩,
  ⟨(some 5), none, .nilS 28 1, none⟩,
  ⟨(some 6), none, .mv false (.c (.int .i64 0)), none⟩] (some [0, 3])) (
.seq (.seq (.reg false [
  ⟨(some 13), none, .fld 0 (.t 3), none⟩,
  ⟨(some 14), none, .ld none (.t 13), none⟩,
  ⟨(some 15), none, .bin .rem .u8 (.t 14) (.c (.int .u8 4)), none⟩] (some [0, 3, 15])) (
.blk 0 (
  .seq (.reg false [
    ⟨(some 17), none, .bin .eql .u8 (.t 15) (.c (.int .u8 0)), none⟩,
    ⟨(some 16), none, .mv false (.t 17), none⟩] (some [0, 3, 15, 16])) (
  .ite (.t 16) (
    .seq (.reg false [
      ⟨(some 19), none, .mv false (.t 0), none⟩,
      ⟨(some 20), none, .fld 1 (.t 3), none⟩,
      ⟨(some 21), none, .ld none (.t 20), none⟩,
      ⟨(some 22), none, .fld 2 (.t 3), none⟩,
      ⟨(some 23), none, .ld none (.t 22), none⟩,
      ⟨(some 24), none, .call false 42 [(.t 19), (.t 21), (.t 23)], none⟩,
      ⟨(some 18), none, .mv false (.t 24), none⟩,
      ⟨(some 25), none, .ext (.t 18) 0, none⟩,
      ⟨(some 26), none, .ext (.t 18) 1, none⟩,
      ⟨(some 7), none, .mv false (.t 25), none⟩,
      ⟨(some 8), none, .mv false (.t 26), none⟩] (some [7, 8])) (
    .seq (.reg false [
      ⟨(some 27), none, .mv false (.t 7), none⟩,
      ⟨(some 28), none, .mv false (.t 8), none⟩,
      ⟨(some 4), none, .mv false (.t 27), none⟩,
      ⟨(some 5), none, .nilS 28 1, none⟩,
      ⟨(some 6), none, .mv false (.t 28), none⟩] (some [4, 5, 6])) (
    .ret))) (
    .seq (.reg false [
      ⟨(some 30), none, .bin .eql .u8 (.t 15) (.c (.int .u8 1)), none⟩,
      ⟨(some 29), none, .mv false (.t 30), none⟩] (some [0, 3, 15, 29])) (
    .ite (.t 29) (
      .seq (.reg false [
        ⟨(some 31), none, .mv false (.t 0), none⟩,
        ⟨(some 32), none, .fld 1 (.t 3), none⟩,
        ⟨(some 33), none, .ld none (.t 32), none⟩,
        ⟨(some 34), none, .call false 43 [(.t 31), (.t 33)], none⟩,
        ⟨(some 35), none, .ext (.t 34) 0, none⟩,
        ⟨(some 36), none, .ext (.t 34) 1, none⟩,
        ⟨(some 37), none, .ext (.t 34) 2, none⟩,
        ⟨(some 4), none, .mv false (.t 35), none⟩,
        ⟨(some 5), none, .mv false (.t 36), none⟩,
        ⟨(some 6), none, .mv false (.t 37), none⟩] (some [4, 5, 6])) (
      .ret)) (
      .seq (.reg false [
        ⟨(some 39), none, .bin .eql .u8 (.t 15) (.c (.int .u8 2)), none⟩,
        ⟨(some 38), none, .mv false (.t 39), none⟩] (some [0, 3, 38])) (
      .ite (.t 38) (
        .seq (.reg false [
          ⟨(some 41), none, .mv false (.t 0), none⟩,
          ⟨(some 42), none, .fld 1 (.t 3), none⟩,
          ⟨(some 43), none, .ld none (.t 42), none⟩,
          ⟨(some 44), none, .fld 2 (.t 3), none⟩,
          ⟨(some 45), none, .ld none (.t 44), none⟩,
          ⟨(some 46), none, .call false 44 [(.t 41), (.t 43), (.t 45)], none⟩,
          ⟨(some 40), none, .mv false (.t 46), none⟩,
          ⟨(some 47), none, .ext (.t 40) 0, none⟩,
          ⟨(some 48), none, .ext (.t 40) 1, none⟩,
          ⟨(some 9), none, .mv false (.t 47), none⟩,
          ⟨(some 10), none, .mv false (.t 48), none⟩] (some [9, 10])) (
        .seq (.reg false [
          ⟨(some 49), none, .mv false (.t 9), none⟩,
          ⟨(some 50), none, .mv false (.t 10), none⟩,
          ⟨(some 4), none, .mv false (.t 49), none⟩,
          ⟨(some 5), none, .nilS 28 1, none⟩,
          ⟨(some 6), none, .mv false (.t 50), none⟩] (some [4, 5, 6])) (
        .ret))) (
        .skip))))))))) (
.seq (.reg false [
  ⟨(some 52), none, .mv false (.t 0), none⟩,
  ⟨(some 53), none, .fld 1 (.t 3), none⟩,
  ⟨(some 54), none, .ld none (.t 53), none⟩,
  ⟨(some 55), none, .fld 3 (.t 3), none⟩,
  ⟨(some 56), none, .ld none (.t 55), none⟩,
  ⟨(some 57), none, .call false 45 [(.t 52), (.t 54), (.t 56)], none⟩,
  ⟨(some 51), none, .mv false (.t 57), none⟩,
  ⟨(some 58), none, .ext (.t 51) 0, none⟩,
  ⟨(some 59), none, .ext (.t 51) 1, none⟩,
  ⟨(some 11), none, .mv false (.t 58), none⟩,
  ⟨(some 12), none, .mv false (.t 59), none⟩] (some [11, 12])) (
.seq (.reg false [
  ⟨(some 60), none, .mv false (.t 11), none⟩,
  ⟨(some 61), none, .mv false (.t 12), none⟩,
  ⟨(some 4), none, .mv false (.t 60), none⟩,
  ⟨(some 5), none, .nilS 28 1, none⟩,
  ⟨(some 6), none, .mv false (.t 61), none⟩] (some [4, 5, 6])) (
.ret))))
set_option maxRecDepth 1000000 in
theorem comp_law28_Plain : (Try.f28.body.bind fun code => compC Try.prog Try.f28.ntmps code c_law28_Plain) = some c_law28_Plain.bare := by kernel_rfl
def r_law28_Plain : List R := [.t 4, .t 5, .t 6]
theorem spo_law28_Plain {ds : List D} {d : D} (hn : Nat.ble ds.length 62 = true) (h : run TSpC gtab 0 c_law28_Plain (retK r_law28_Plain (· = d)) ⟨env0 0 ds, []⟩) : TSp 28 ds d := Sp_of mixed c_law28_Plain r_law28_Plain (fn := Try.f28) (by kernel_rfl) (by kernel_rfl) comp_law28_Plain (by kernel_rfl) hn h
theorem spm_law28_Plain {ds : List D} {d : D} {bx bx' : List Ent} (hn : Nat.ble ds.length 62 = true) (h : run TSpC gtab (sizeE bx) c_law28_Plain (retG r_law28_Plain (fun d1 bx1 => Rt (sizeE bx) bx1 d1 d bx')) ⟨env0 0 ds, bx⟩) : TSpM 28 ds bx d bx' := SpM_of mixed c_law28_Plain r_law28_Plain (fn := Try.f28) (by kernel_rfl) (by kernel_rfl) comp_law28_Plain (by kernel_rfl) hn h
/-- glazier/glazierlaw28.Is -/
def c_law28_Is : C := .seq (.reg false [
  ⟨(some 2), none, .box true (.t 0), none⟩,
  ⟨(some 4), none, .mv false (.c (.bool false)), none⟩] (some [1, 2])) (
.seq (.reg false [
  ⟨(some 10), none, .mv false (.t 1), none⟩,
  ⟨(some 11), none, .call false 25 [(.t 10), (.c (.int .u32 1))], none⟩,
  ⟨(some 5), none, .mv false (.t 11), none⟩] (some [1, 2, 5])) (
.seq (.seq (.reg false [
  ⟨(some 12), none, .ld (some 2) (.t 2), none⟩,
  ⟨(some 13), none, .call false 14 [(.t 12), (.c (.int .u32 1))], none⟩,
  ⟨(some 14), none, .mv false (.t 5), none⟩,
  ⟨(some 15), none, .call false 17 [(.t 13), (.t 14)], none⟩,
  ⟨(some 16), none, .not (.t 15), none⟩,
  ⟨(some 17), none, .mv false (.t 16), none⟩,
  ⟨(some 18), some (17, false), .ld (some 2) (.t 2), none⟩,
  ⟨(some 19), some (17, false), .call false 20 [(.t 18), (.c (.int .u32 0))], none⟩,
  ⟨(some 20), none, .pick (.t 17) (.c (.bool true)) (.t 19), none⟩] (some [1, 2, 5, 20])) (
.ite (.t 20) (
  .seq (.reg false [
    ⟨(some 4), none, .mv false (.c (.bool false)), none⟩] (some [4])) (
  .ret)) (
  .skip))) (
.seq (.seq (.reg false [
  ⟨(some 21), none, .mv false (.t 5), none⟩,
  ⟨(some 22), none, .len false (.t 21), none⟩,
  ⟨(some 23), none, .mv false (.c (.int .i64 0)), none⟩] (some [1, 2, 21, 22, 23])) (
.blk 0 (
  .loop (
    .seq (.reg false [
      ⟨(some 24), none, .bin .lss .i64 (.t 23) (.t 22), none⟩] (some [1, 2, 21, 22, 23, 24])) (
    .seq (.ite (.t 24) (
      .skip) (
      .exit 0)) (
    .seq (.blk 1 (
      .seq (.reg false [
        ⟨(some 25), none, .ixs 1 (.t 21) (.t 23), none⟩,
        ⟨(some 26), none, .ld none (.t 25), none⟩,
        ⟨(some 7), none, .mv false (.t 26), none⟩] (some [1, 2, 7, 21, 22, 23])) (
      .seq (.reg false [
        ⟨(some 28), none, .ld (some 2) (.t 2), none⟩,
        ⟨(some 29), none, .mv false (.t 7), none⟩,
        ⟨(some 30), none, .call false 26 [(.t 28), (.t 29)], none⟩,
        ⟨(some 27), none, .mv false (.t 30), none⟩,
        ⟨(some 31), none, .ext (.t 27) 0, none⟩,
        ⟨(some 32), none, .ext (.t 27) 1, none⟩,
        ⟨(some 8), none, .mv false (.t 31), none⟩,
        ⟨(some 9), none, .mv false (.t 32), none⟩] (some [1, 2, 7, 8, 9, 21, 22, 23])) (
      .seq (.reg false [
        ⟨(some 33), none, .ld (some 2) (.t 2), none⟩,
        ⟨(some 34), none, .mv false (.t 7), none⟩,
        ⟨(some 35), none, .call false 20 [(.t 33), (.t 34)], none⟩,
        ⟨(some 36), none, .not (.t 35), none⟩,
        ⟨(some 37), none, .mv false (.t 36), none⟩,
        ⟨(some 38), some (37, false), .mv false (.t 8), none⟩,
        ⟨(some 39), some (37, false), .mv false (.t 1), none⟩,
        ⟨(some 40), some (37, false), .mv false (.t 7), none⟩,
        ⟨(some 41), some (37, false), .call false 40 [(.t 39), (.t 40)], none⟩,
        ⟨(some 42), some (37, false), .bin .neq .u32 (.t 38) (.t 41), none⟩,
        ⟨(some 43), none, .pick (.t 37) (.c (.bool true)) (.t 42), none⟩,
        ⟨(some 44), none, .mv false (.t 43), none⟩,
        ⟨(some 45), some (44, false), .mv false (.t 9), none⟩,
        ⟨(some 46), some (44, false), .mv false (.t 7), none⟩,
        ⟨(some 47), some (44, false), .bin .neq .u32 (.t 46) (.c (.int .u32 1)), none⟩,
        ⟨(some 48), some (44, false), .eqb true false (.t 45) (.t 47), none⟩,
        ⟨(some 49), none, .pick (.t 44) (.c (.bool true)) (.t 48), none⟩,
        ⟨(some 50), none, .mv false (.t 49), none⟩,
        ⟨(some 51), some (50, false), .ld (some 2) (.t 2), none⟩,
        ⟨(some 52), some (50, false), .mv false (.t 7), none⟩,
        ⟨(some 53), some (50, false), .call false 23 [(.t 51), (.t 52)], none⟩,
        ⟨(some 54), some (50, false), .mv false (.t 1), none⟩,
        ⟨(some 55), some (50, false), .mv false (.t 7), none⟩,
        ⟨(some 56), some (50, false), .call false 24 [(.t 54), (.t 55)], none⟩,
        ⟨(some 57), some (50, false), .call false 17 [(.t 53), (.t 56)], none⟩,
        ⟨(some 58), some (50, false), .not (.t 57), none⟩,
        ⟨(some 59), none, .pick (.t 50) (.c (.bool true)) (.t 58), none⟩,
        ⟨(some 60), none, .mv false (.t 59), none⟩,
        ⟨(some 61), some (60, false), .ld (some 2) (.t 2), none⟩,
        ⟨(some 62), some (60, false), .mv false (.t 7), none⟩,
        ⟨(some 63), some (60, false), .call false 12 [(.t 61), (.t 62)], none⟩,
        ⟨(some 64), some (60, false), .mv false (.t 1), none⟩,
        ⟨(some 65), some (60, false), .mv false (.t 7), none⟩,
        ⟨(some 66), some (60, false), .call false 22 [(.t 64), (.t 65)], none⟩,
        ⟨(some 67), some (60, false), .call false 17 [(.t 63), (.t 66)], none⟩,
        ⟨(some 68), some (60, false), .not (.t 67), none⟩,
        ⟨(some 69), none, .pick (.t 60) (.c (.bool true)) (.t 68), none⟩,
        ⟨(some 70), none, .mv false (.t 69), none⟩,
        ⟨(some 71), some (70, false), .ld (some 2) (.t 2), none⟩,
        ⟨(some 72), some (70, false), .mv false (.t 7), none⟩,
        ⟨(some 73), some (70, false), .call false 14 [(.t 71), (.t 72)], none⟩,
        ⟨(some 74), some (70, false), .mv false (.t 1), none⟩,
        ⟨(some 75), some (70, false), .mv false (.t 7), none⟩,
        ⟨(some 76), some (70, false), .call false 25 [(.t 74), (.t 75)], none⟩,
        ⟨(some 77), some (70, false), .call false 17 [(.t 73), (.t 76)], none⟩,
        ⟨(some 78), some (70, false), .not (.t 77), none⟩,
        ⟨(some 79), none, .pick (.t 70) (.c (.bool true)) (.t 78), none⟩] (some [1, 2, 21, 22, 23, 79])) (
      .ite (.t 79) (
        .seq (.reg false [
          ⟨(some 4), none, .mv false (.c (.bool false)), none⟩] (some [4])) (
        .ret)) (
        .skip)))))) (
    .reg false [
      ⟨(some 80), none, .bin .add .i64 (.t 23) (.c (.int .i64 1)), none⟩,
      ⟨(some 23), none, .mv false (.t 80), none⟩] (some [1, 2, 21, 22, 23])))))))) (
.seq (.reg false [
  ⟨(some 4), none, .mv false (.c (.bool true)), none⟩] (some [4])) (
.ret)))))
set_option maxRecDepth 1000000 in
theorem comp_law28_Is : (Try.f29.body.bind fun code => compC Try.prog Try.f29.ntmps code c_law28_Is) = some c_law28_Is.bare := by kernel_rfl
def r_law28_Is : List R := [.t 4]
theorem spo_law28_Is {ds : List D} {d : D} (hn : Nat.ble ds.length 81 = true) (h : run TSpC gtab 0 c_law28_Is (retK r_law28_Is (· = d)) ⟨env0 0 ds, []⟩) : TSp 29 ds d := Sp_of mixed c_law28_Is r_law28_Is (fn := Try.f29) (by kernel_rfl) (by kernel_rfl) comp_law28_Is (by kernel_rfl) hn h
theorem spm_law28_Is {ds : List D} {d : D} {bx bx' : List Ent} (hn : Nat.ble ds.length 81 = true) (h : run TSpC gtab (sizeE bx) c_law28_Is (retG r_law28_Is (fun d1 bx1 => Rt (sizeE bx) bx1 d1 d bx')) ⟨env0 0 ds, bx⟩) : TSpM 29 ds bx d bx' := SpM_of mixed c_law28_Is r_law28_Is (fn := Try.f29) (by kernel_rfl) (by kernel_rfl) comp_law28_Is (by kernel_rfl) hn h
/-- glazier/glazierlaw28.TreeBounds -/
def c_law28_TreeBounds : C := .seq (.reg false [
  ⟨(some 2), none, .mv false (.c (.bool false)), none⟩] (some [0])) (
.seq (.reg false [
  ⟨(some 13), none, .call false 10 [], none⟩,
  ⟨(some 3), none, .alloc [(.mp [] []), (.mp [] [])], none⟩,
  ⟨none, none, .st (some 2) (.t 3) (.t 13), none⟩] (some [0, 3])) (
.seq (.reg false [
  ⟨(some 4), none, .mv false (.c (.int .u32 1)), none⟩] (some [0, 3, 4])) (
.seq (.seq (.reg false [
  ⟨(some 5), none, .mv false (.c (.int .i64 1)), none⟩] (some [0, 3, 4, 5])) (
.blk 0 (
  .loop (
    .seq (.seq (.reg false [
      ⟨(some 14), none, .mv false (.t 5), none⟩,
      ⟨(some 15), none, .bin .leq .i64 (.t 14) (.c (.int .i64 63)), none⟩] (some [0, 3, 4, 5, 15])) (
    .ite (.t 15) (
      .skip) (
      .exit 0))) (
    .seq (.blk 1 (
      .seq (.reg false [
        ⟨(some 18), none, .mv false (.t 5), none⟩,
        ⟨(some 19), none, .bin .add .i64 (.c (.int .i64 1048576)) (.t 18), none⟩,
        ⟨(some 20), none, .conv .u32 (.t 19), none⟩,
        ⟨(some 6), none, .mv false (.t 20), none⟩] (some [0, 3, 4, 5, 6])) (
      .seq (.reg false [
        ⟨(some 22), none, .ld (some 2) (.t 3), none⟩,
        ⟨(some 23), none, .mv false (.t 6), none⟩,
        ⟨(some 24), none, .mv false (.t 4), none⟩,
        ⟨(some 25), none, .call false 11 [(.t 22), (.t 23), (.t 24)], none⟩,
        ⟨(some 21), none, .mv false (.t 25), none⟩,
        ⟨(some 26), none, .ext (.t 21) 0, none⟩,
        ⟨(some 27), none, .ext (.t 21) 1, none⟩,
        ⟨(some 7), none, .alloc [(.mp [] []), (.mp [] [])], none⟩,
        ⟨none, none, .st (some 2) (.t 7) (.t 26), none⟩,
        ⟨(some 8), none, .mv false (.t 27), none⟩] (some [0, 3, 4, 5, 6, 7, 8])) (
      .seq (.seq (.reg false [
        ⟨(some 28), none, .mv false (.t 8), none⟩,
        ⟨(some 29), none, .bin .neq .i64 (.t 28) (.c (.int .i64 0)), none⟩] (some [0, 3, 4, 5, 6, 7, 29])) (
      .ite (.t 29) (
        .seq (.reg false [
          ⟨(some 2), none, .mv false (.c (.bool false)), none⟩] (some [2])) (
        .ret)) (
        .skip))) (
      .seq (.reg false [
        ⟨(some 30), none, .ld (some 2) (.t 7), none⟩,
        ⟨none, none, .st (some 2) (.t 3) (.t 30), none⟩] (some [0, 3, 4, 5, 6])) (
      .seq (.reg false [
        ⟨(some 31), none, .mv false (.t 0), none⟩,
        ⟨(some 32), none, .not (.t 31), none⟩] (some [0, 3, 4, 5, 6, 32])) (
      .ite (.t 32) (
        .reg false [
          ⟨(some 33), none, .mv false (.t 6), none⟩,
          ⟨(some 4), none, .mv false (.t 33), none⟩] (some [0, 3, 4, 5])) (
        .skip)))))))) (
    .reg false [
      ⟨(some 16), none, .mv false (.t 5), none⟩,
      ⟨(some 17), none, .bin .add .i64 (.t 16) (.c (.int .i64 1)), none⟩,
      ⟨(some 5), none, .mv false (.t 17), none⟩] (some [0, 3, 4, 5]))))))) (
.seq (.reg false [
  ⟨(some 35), none, .ld (some 2) (.t 3), none⟩,
  ⟨(some 36), none, .call false 11 [(.t 35), (.c (.int .u32 1048640)), (.c (.int .u32 1))], none⟩,
  ⟨(some 34), none, .mv false (.t 36), none⟩,
  ⟨(some 37), none, .ext (.t 34) 0, none⟩,
  ⟨(some 38), none, .ext (.t 34) 1, none⟩,
  ⟨(some 9), none, .alloc [(.mp [] []), (.mp [] [])], none⟩,
  ⟨none, none, .st (some 2) (.t 9) (.t 37), none⟩,
  ⟨(some 10), none, .mv false (.t 38), none⟩] (some [0, 3, 10])) (
.seq (.reg false [
  ⟨(some 39), none, .ld (some 2) (.t 3), none⟩,
  ⟨(some 40), none, .call false 12 [(.t 39), (.c (.int .u32 1048639))], none⟩,
  ⟨(some 11), none, .mv false (.t 40), none⟩] (some [0, 3, 10, 11])) (
.seq (.reg false [
  ⟨(some 12), none, .mv false (.c (.int .i64 64)), none⟩] (some [0, 3, 10, 11, 12])) (
.seq (.seq (.reg false [
  ⟨(some 41), none, .mv false (.t 0), none⟩] (some [3, 10, 11, 12, 41])) (
.ite (.t 41) (
  .reg false [
    ⟨(some 12), none, .mv false (.c (.int .i64 2)), none⟩] (some [3, 10, 11, 12])) (
  .skip))) (
.seq (.reg false [
  ⟨(some 42), none, .call false 13 [], none⟩,
  ⟨(some 43), none, .mv false (.t 42), none⟩,
  ⟨(some 44), some (43, true), .mv false (.t 10), none⟩,
  ⟨(some 45), some (43, true), .bin .eql .i64 (.t 44) (.c (.int .i64 5)), none⟩,
  ⟨(some 46), none, .pick (.t 43) (.t 45) (.c (.bool false)), none⟩,
  ⟨(some 47), none, .mv false (.t 46), none⟩,
  ⟨(some 48), some (47, true), .ld (some 2) (.t 3), none⟩,
  ⟨(some 49), some (47, true), .call false 14 [(.t 48), (.c (.int .u32 1))], none⟩,
  ⟨(some 50), some (47, true), .len false (.t 49), none⟩,
  ⟨(some 51), some (47, true), .bin .eql .i64 (.t 50) (.c (.int .i64 64)), none⟩,
  ⟨(some 52), none, .pick (.t 47) (.t 51) (.c (.bool false)), none⟩,
  ⟨(some 53), none, .mv false (.t 52), none⟩,
  ⟨(some 54), some (53, true), .mv false (.t 11), none⟩,
  ⟨(some 55), some (53, true), .len false (.t 54), none⟩,
  ⟨(some 56), some (53, true), .mv false (.t 12), none⟩,
  ⟨(some 57), some (53, true), .bin .eql .i64 (.t 55) (.t 56), none⟩,
  ⟨(some 58), none, .pick (.t 53) (.t 57) (.c (.bool false)), none⟩,
  ⟨(some 2), none, .mv false (.t 58), none⟩] (some [2])) (
.ret)))))))))
set_option maxRecDepth 1000000 in
theorem comp_law28_TreeBounds : (Try.f3.body.bind fun code => compC Try.prog Try.f3.ntmps code c_law28_TreeBounds) = some c_law28_TreeBounds.bare := by kernel_rfl
def r_law28_TreeBounds : List R := [.t 2]
theorem spo_law28_TreeBounds {ds : List D} {d : D} (hn : Nat.ble ds.length 59 = true) (h : run TSpC gtab 0 c_law28_TreeBounds (retK r_law28_TreeBounds (· = d)) ⟨env0 0 ds, []⟩) : TSp 3 ds d := Sp_of mixed c_law28_TreeBounds r_law28_TreeBounds (fn := Try.f3) (by kernel_rfl) (by kernel_rfl) comp_law28_TreeBounds (by kernel_rfl) hn h
theorem spm_law28_TreeBounds {ds : List D} {d : D} {bx bx' : List Ent} (hn : Nat.ble ds.length 59 = true) (h : run TSpC gtab (sizeE bx) c_law28_TreeBounds (retG r_law28_TreeBounds (fun d1 bx1 => Rt (sizeE bx) bx1 d1 d bx')) ⟨env0 0 ds, bx⟩) : TSpM 3 ds bx d bx' := SpM_of mixed c_law28_TreeBounds r_law28_TreeBounds (fn := Try.f3) (by kernel_rfl) (by kernel_rfl) comp_law28_TreeBounds (by kernel_rfl) hn h
/-- glazier/glazierlaw28.TreeMoves -/
def c_law28_TreeMoves : C := .seq (.reg false [
  ⟨(some 6), none, .mv false (.c (.bool false)), none⟩] (some [0, 1, 2])) (
.seq (.reg false [
  ⟨(some 14), none, .mv false (.t 0), none⟩,
  ⟨(some 15), none, .call false 15 [(.t 14)], none⟩,
  ⟨(some 13), none, .mv false (.t 15), none⟩,
  ⟨(some 16), none, .ext (.t 13) 0, none⟩,
  ⟨(some 17), none, .ext (.t 13) 1, none⟩,
  ⟨(some 18), none, .ext (.t 13) 2, none⟩,
  ⟨(some 7), none, .alloc [(.mp [] []), (.mp [] [])], none⟩,
  ⟨none, none, .st (some 2) (.t 7) (.t 16), none⟩,
  ⟨(some 8), none, .mv false (.t 17), none⟩,
  ⟨(some 9), none, .mv false (.t 18), none⟩] (some [1, 2, 7, 9])) (
.seq (.seq (.reg false [
  ⟨(some 19), none, .mv false (.t 9), none⟩,
  ⟨(some 20), none, .not (.t 19), none⟩] (some [1, 2, 7, 20])) (
.ite (.t 20) (
  .seq (.reg false [
    ⟨(some 21), none, .call false 13 [], none⟩,
    ⟨(some 6), none, .mv false (.t 21), none⟩] (some [6])) (
  .ret)) (
  .skip))) (
.seq (.reg false [
  ⟨(some 23), none, .ld (some 2) (.t 7), none⟩,
  ⟨(some 24), none, .mv false (.t 1), none⟩,
  ⟨(some 25), none, .mv false (.t 2), none⟩,
  ⟨(some 26), none, .call false 16 [(.t 23), (.t 24), (.t 25)], none⟩,
  ⟨(some 22), none, .mv false (.t 26), none⟩,
  ⟨(some 27), none, .ext (.t 22) 0, none⟩,
  ⟨(some 28), none, .ext (.t 22) 1, none⟩,
  ⟨(some 10), none, .alloc [(.mp [] []), (.mp [] [])], none⟩,
  ⟨none, none, .st (some 2) (.t 10) (.t 27), none⟩,
  ⟨(some 11), none, .mv false (.t 28), none⟩] (some [1, 2, 7, 10, 11])) (
.seq (.seq (.reg false [
  ⟨(some 29), none, .mv false (.t 11), none⟩,
  ⟨(some 30), none, .bin .neq .i64 (.t 29) (.c (.int .i64 0)), none⟩] (some [1, 2, 7, 10, 30])) (
.ite (.t 30) (
  .seq (.reg true [
    ⟨(some 31), none, .call false 13 [], none⟩,
    ⟨(some 32), none, .mv false (.t 31), none⟩,
    ⟨(some 33), some (32, true), .ld (some 2) (.t 10), none⟩,
    ⟨(some 34), some (32, true), .call false 14 [(.t 33), (.c (.int .u32 1))], none⟩,
    ⟨(some 35), some (32, true), .ld (some 2) (.t 7), none⟩,
    ⟨(some 36), some (32, true), .call false 14 [(.t 35), (.c (.int .u32 1))], none⟩,
    ⟨(some 37), some (32, true), .call false 17 [(.t 34), (.t 36)], none⟩,
    ⟨(some 38), none, .pick (.t 32) (.t 37) (.c (.bool false)), none⟩,
    ⟨(some 6), none, .mv false (.t 38), none⟩] (some [6])) (
  .ret)) (
  .skip))) (
.seq (.reg false [
  ⟨(some 39), none, .ld (some 2) (.t 10), none⟩,
  ⟨(some 40), none, .mv false (.t 1), none⟩,
  ⟨(some 41), none, .call false 12 [(.t 39), (.t 40)], none⟩,
  ⟨(some 12), none, .mv false (.t 41), none⟩] (some [1, 2, 7, 10, 12])) (
.seq (.reg true [
  ⟨(some 42), none, .call false 13 [], none⟩,
  ⟨(some 43), none, .mv false (.t 42), none⟩,
  ⟨(some 44), some (43, true), .ld (some 2) (.t 10), none⟩,
  ⟨(some 45), some (43, true), .mv false (.t 1), none⟩,
  ⟨(some 46), some (43, true), .call false 14 [(.t 44), (.t 45)], none⟩,
  ⟨(some 47), some (43, true), .ld (some 2) (.t 7), none⟩,
  ⟨(some 48), some (43, true), .mv false (.t 1), none⟩,
  ⟨(some 49), some (43, true), .call false 14 [(.t 47), (.t 48)], none⟩,
  ⟨(some 50), some (43, true), .call false 17 [(.t 46), (.t 49)], none⟩,
  ⟨(some 51), none, .pick (.t 43) (.t 50) (.c (.bool false)), none⟩,
  ⟨(some 52), none, .mv false (.t 51), none⟩,
  ⟨(some 53), some (52, true), .mv false (.t 12), none⟩,
  ⟨(some 54), some (52, true), .len false (.t 53), none⟩,
  ⟨(some 55), some (52, true), .bin .gtr .i64 (.t 54) (.c (.int .i64 1)), none⟩,
  ⟨(some 56), none, .pick (.t 52) (.t 55) (.c (.bool false)), none⟩,
  ⟨(some 57), none, .mv false (.t 56), none⟩,
  ⟨(some 58), some (57, true), .mv false (.t 12), none⟩,
  ⟨(some 59), some (57, true), .ixs 1 (.t 58) (.c (.int .i64 0)), none⟩,
  ⟨(some 60), some (57, true), .ld none (.t 59), none⟩,
  ⟨(some 61), some (57, true), .mv false (.t 1), none⟩,
  ⟨(some 62), some (57, true), .bin .eql .u32 (.t 60) (.t 61), none⟩,
  ⟨(some 63), none, .pick (.t 57) (.t 62) (.c (.bool false)), none⟩,
  ⟨(some 64), none, .mv false (.t 63), none⟩,
  ⟨(some 65), some (64, true), .mv false (.t 12), none⟩,
  ⟨(some 66), some (64, true), .sls false 1 (.t 65) (some (.c (.int .i64 1))) none, none⟩,
  ⟨(some 67), some (64, true), .ld (some 2) (.t 7), none⟩,
  ⟨(some 68), some (64, true), .mv false (.t 2), none⟩,
  ⟨(some 69), some (64, true), .call false 12 [(.t 67), (.t 68)], none⟩,
  ⟨(some 70), some (64, true), .call false 17 [(.t 66), (.t 69)], none⟩,
  ⟨(some 71), none, .pick (.t 64) (.t 70) (.c (.bool false)), none⟩,
  ⟨(some 72), none, .mv false (.t 71), none⟩,
  ⟨(some 73), some (72, true), .ld (some 2) (.t 10), none⟩,
  ⟨(some 74), some (72, true), .call false 14 [(.t 73), (.c (.int .u32 1))], none⟩,
  ⟨(some 75), some (72, true), .len false (.t 74), none⟩,
  ⟨(some 76), some (72, true), .ld (some 2) (.t 7), none⟩,
  ⟨(some 77), some (72, true), .call false 14 [(.t 76), (.c (.int .u32 1))], none⟩,
  ⟨(some 78), some (72, true), .len false (.t 77), none⟩,
  ⟨(some 79), some (72, true), .bin .eql .i64 (.t 75) (.t 78), none⟩,
  ⟨(some 80), none, .pick (.t 72) (.t 79) (.c (.bool false)), none⟩,
  ⟨(some 6), none, .mv false (.t 80), none⟩] (some [6])) (
.ret)))))))
set_option maxRecDepth 1000000 in
theorem comp_law28_TreeMoves : (Try.f4.body.bind fun code => compC Try.prog Try.f4.ntmps code c_law28_TreeMoves) = some c_law28_TreeMoves.bare := by kernel_rfl
def r_law28_TreeMoves : List R := [.t 6]
theorem spo_law28_TreeMoves {ds : List D} {d : D} (hn : Nat.ble ds.length 81 = true) (h : run TSpC gtab 0 c_law28_TreeMoves (retK r_law28_TreeMoves (· = d)) ⟨env0 0 ds, []⟩) : TSp 4 ds d := Sp_of mixed c_law28_TreeMoves r_law28_TreeMoves (fn := Try.f4) (by kernel_rfl) (by kernel_rfl) comp_law28_TreeMoves (by kernel_rfl) hn h
theorem spm_law28_TreeMoves {ds : List D} {d : D} {bx bx' : List Ent} (hn : Nat.ble ds.length 81 = true) (h : run TSpC gtab (sizeE bx) c_law28_TreeMoves (retG r_law28_TreeMoves (fun d1 bx1 => Rt (sizeE bx) bx1 d1 d bx')) ⟨env0 0 ds, bx⟩) : TSpM 4 ds bx d bx' := SpM_of mixed c_law28_TreeMoves r_law28_TreeMoves (fn := Try.f4) (by kernel_rfl) (by kernel_rfl) comp_law28_TreeMoves (by kernel_rfl) hn h
/-- glazier/glazierlaw28.TreeMeets -/
def c_law28_TreeMeets : C := .seq (.reg false [
  ⟨(some 6), none, .mv false (.c (.bool false)), none⟩] (some [0, 1, 2])) (
.seq (.reg false [
  ⟨(some 16), none, .mv false (.t 0), none⟩,
  ⟨(some 17), none, .call false 15 [(.t 16)], none⟩,
  ⟨(some 15), none, .mv false (.t 17), none⟩,
  ⟨(some 18), none, .ext (.t 15) 0, none⟩,
  ⟨(some 19), none, .ext (.t 15) 1, none⟩,
  ⟨(some 20), none, .ext (.t 15) 2, none⟩,
  ⟨(some 7), none, .alloc [(.mp [] []), (.mp [] [])], none⟩,
  ⟨none, none, .st (some 2) (.t 7) (.t 18), none⟩,
  ⟨(some 8), none, .mv false (.t 19), none⟩,
  ⟨(some 9), none, .mv false (.t 20), none⟩] (some [1, 2, 7, 8, 9])) (
.seq (.seq (.reg false [
  ⟨(some 21), none, .mv false (.t 9), none⟩,
  ⟨(some 22), none, .not (.t 21), none⟩] (some [1, 2, 7, 8, 22])) (
.ite (.t 22) (
  .seq (.reg false [
    ⟨(some 23), none, .call false 13 [], none⟩,
    ⟨(some 6), none, .mv false (.t 23), none⟩] (some [6])) (
  .ret)) (
  .skip))) (
.seq (.reg false [
  ⟨(some 25), none, .ld (some 2) (.t 7), none⟩,
  ⟨(some 26), none, .mv false (.t 1), none⟩,
  ⟨(some 27), none, .mv false (.t 2), none⟩,
  ⟨(some 28), none, .call false 18 [(.t 25), (.t 26), (.t 27)], none⟩,
  ⟨(some 24), none, .mv false (.t 28), none⟩,
  ⟨(some 29), none, .ext (.t 24) 0, none⟩,
  ⟨(some 30), none, .ext (.t 24) 1, none⟩,
  ⟨(some 10), none, .mv false (.t 29), none⟩,
  ⟨(some 11), none, .mv false (.t 30), none⟩] (some [1, 2, 7, 8, 10, 11])) (
.seq (.reg false [
  ⟨(some 31), none, .mv false (.t 8), none⟩,
  ⟨(some 32), none, .mv false (.t 1), none⟩,
  ⟨(some 33), none, .mv false (.t 2), none⟩,
  ⟨(some 34), none, .call false 19 [(.t 31), (.t 32), (.t 33)], none⟩,
  ⟨(some 12), none, .mv false (.t 34), none⟩] (some [1, 2, 7, 8, 10, 11, 12])) (
.seq (.reg false [
  ⟨(some 36), none, .ld (some 2) (.t 7), none⟩,
  ⟨(some 37), none, .mv false (.t 2), none⟩,
  ⟨(some 38), none, .mv false (.t 1), none⟩,
  ⟨(some 39), none, .call false 18 [(.t 36), (.t 37), (.t 38)], none⟩,
  ⟨(some 35), none, .mv false (.t 39), none⟩,
  ⟨(some 40), none, .ext (.t 35) 0, none⟩,
  ⟨(some 41), none, .ext (.t 35) 1, none⟩,
  ⟨(some 13), none, .mv false (.t 40), none⟩,
  ⟨(some 14), none, .mv false (.t 41), none⟩] (some [1, 2, 7, 8, 10, 11, 12, 13, 14])) (
.seq (.reg false [
  ⟨(some 42), none, .call false 13 [], none⟩,
  ⟨(some 43), none, .mv false (.t 42), none⟩,
  ⟨(some 44), some (43, true), .mv false (.t 10), none⟩,
  ⟨(some 45), some (43, true), .mv false (.t 12), none⟩,
  ⟨(some 46), some (43, true), .bin .eql .u32 (.t 44) (.t 45), none⟩,
  ⟨(some 47), none, .pick (.t 43) (.t 46) (.c (.bool false)), none⟩,
  ⟨(some 48), none, .mv false (.t 47), none⟩,
  ⟨(some 49), some (48, true), .mv false (.t 11), none⟩,
  ⟨(some 50), some (48, true), .mv false (.t 12), none⟩,
  ⟨(some 51), some (48, true), .bin .neq .u32 (.t 50) (.c (.int .u32 0)), none⟩,
  ⟨(some 52), some (48, true), .eqb false false (.t 49) (.t 51), none⟩,
  ⟨(some 53), none, .pick (.t 48) (.t 52) (.c (.bool false)), none⟩,
  ⟨(some 54), none, .mv false (.t 53), none⟩,
  ⟨(some 55), some (54, true), .mv false (.t 13), none⟩,
  ⟨(some 56), some (54, true), .mv false (.t 10), none⟩,
  ⟨(some 57), some (54, true), .bin .eql .u32 (.t 55) (.t 56), none⟩,
  ⟨(some 58), none, .pick (.t 54) (.t 57) (.c (.bool false)), none⟩,
  ⟨(some 59), none, .mv false (.t 58), none⟩,
  ⟨(some 60), some (59, true), .mv false (.t 14), none⟩,
  ⟨(some 61), some (59, true), .mv false (.t 11), none⟩,
  ⟨(some 62), some (59, true), .eqb false false (.t 60) (.t 61), none⟩,
  ⟨(some 63), none, .pick (.t 59) (.t 62) (.c (.bool false)), none⟩,
  ⟨(some 64), none, .mv false (.t 63), none⟩,
  ⟨(some 65), some (64, true), .ld (some 2) (.t 7), none⟩,
  ⟨(some 66), some (64, true), .mv false (.t 1), none⟩,
  ⟨(some 67), some (64, true), .call false 20 [(.t 65), (.t 66)], none⟩,
  ⟨(some 68), some (64, true), .mv false (.t 8), none⟩,
  ⟨(some 69), some (64, true), .mv false (.t 1), none⟩,
  ⟨(some 70), some (64, true), .call false 21 [(.t 68), (.t 69)], none⟩,
  ⟨(some 71), some (64, true), .eqb false false (.t 67) (.t 70), none⟩,
  ⟨(some 72), none, .pick (.t 64) (.t 71) (.c (.bool false)), none⟩,
  ⟨(some 73), none, .mv false (.t 72), none⟩,
  ⟨(some 74), some (73, true), .ld (some 2) (.t 7), none⟩,
  ⟨(some 75), some (73, true), .mv false (.t 1), none⟩,
  ⟨(some 76), some (73, true), .call false 12 [(.t 74), (.t 75)], none⟩,
  ⟨(some 77), some (73, true), .mv false (.t 8), none⟩,
  ⟨(some 78), some (73, true), .mv false (.t 1), none⟩,
  ⟨(some 79), some (73, true), .call false 22 [(.t 77), (.t 78)], none⟩,
  ⟨(some 80), some (73, true), .call false 17 [(.t 76), (.t 79)], none⟩,
  ⟨(some 81), none, .pick (.t 73) (.t 80) (.c (.bool false)), none⟩,
  ⟨(some 82), none, .mv false (.t 81), none⟩,
  ⟨(some 83), some (82, true), .ld (some 2) (.t 7), none⟩,
  ⟨(some 84), some (82, true), .mv false (.t 2), none⟩,
  ⟨(some 85), some (82, true), .call false 23 [(.t 83), (.t 84)], none⟩,
  ⟨(some 86), some (82, true), .mv false (.t 8), none⟩,
  ⟨(some 87), some (82, true), .mv false (.t 2), none⟩,
  ⟨(some 88), some (82, true), .call false 24 [(.t 86), (.t 87)], none⟩,
  ⟨(some 89), some (82, true), .call false 17 [(.t 85), (.t 88)], none⟩,
  ⟨(some 90), none, .pick (.t 82) (.t 89) (.c (.bool false)), none⟩,
  ⟨(some 91), none, .mv false (.t 90), none⟩,
  ⟨(some 92), some (91, true), .ld (some 2) (.t 7), none⟩,
  ⟨(some 93), some (91, true), .mv false (.t 2), none⟩,
  ⟨(some 94), some (91, true), .call false 14 [(.t 92), (.t 93)], none⟩,
  ⟨(some 95), some (91, true), .mv false (.t 8), none⟩,
  ⟨(some 96), some (91, true), .mv false (.t 2), none⟩,
  ⟨(some 97), some (91, true), .call false 25 [(.t 95), (.t 96)], none⟩,
  ⟨(some 98), some (91, true), .call false 17 [(.t 94), (.t 97)], none⟩,
  ⟨(some 99), none, .pick (.t 91) (.t 98) (.c (.bool false)), none⟩,
  ⟨(some 6), none, .mv false (.t 99), none⟩] (some [6])) (
.ret)))))))
set_option maxRecDepth 1000000 in
theorem comp_law28_TreeMeets : (Try.f5.body.bind fun code => compC Try.prog Try.f5.ntmps code c_law28_TreeMeets) = some c_law28_TreeMeets.bare := by kernel_rfl
def r_law28_TreeMeets : List R := [.t 6]
theorem spo_law28_TreeMeets {ds : List D} {d : D} (hn : Nat.ble ds.length 100 = true) (h : run TSpC gtab 0 c_law28_TreeMeets (retK r_law28_TreeMeets (· = d)) ⟨env0 0 ds, []⟩) : TSp 5 ds d := Sp_of mixed c_law28_TreeMeets r_law28_TreeMeets (fn := Try.f5) (by kernel_rfl) (by kernel_rfl) comp_law28_TreeMeets (by kernel_rfl) hn h
theorem spm_law28_TreeMeets {ds : List D} {d : D} {bx bx' : List Ent} (hn : Nat.ble ds.length 100 = true) (h : run TSpC gtab (sizeE bx) c_law28_TreeMeets (retG r_law28_TreeMeets (fun d1 bx1 => Rt (sizeE bx) bx1 d1 d bx')) ⟨env0 0 ds, bx⟩) : TSpM 5 ds bx d bx' := SpM_of mixed c_law28_TreeMeets r_law28_TreeMeets (fn := Try.f5) (by kernel_rfl) (by kernel_rfl) comp_law28_TreeMeets (by kernel_rfl) hn h
/-- glazier/glazierlaw28.TreeTurns -/
def c_law28_TreeTurns : C := .seq (.reg false [
  ⟨(some 10), none, .mv false (.c (.bool false)), none⟩] (some [0, 1, 2, 3, 4])) (
.seq (.reg false [
  ⟨(some 29), none, .mv false (.t 0), none⟩,
  ⟨(some 30), none, .call false 15 [(.t 29)], none⟩,
  ⟨(some 28), none, .mv false (.t 30), none⟩,
  ⟨(some 31), none, .ext (.t 28) 0, none⟩,
  ⟨(some 32), none, .ext (.t 28) 1, none⟩,
  ⟨(some 33), none, .ext (.t 28) 2, none⟩,
  ⟨(some 11), none, .alloc [(.mp [] []), (.mp [] [])], none⟩,
  ⟨none, none, .st (some 2) (.t 11) (.t 31), none⟩,
  ⟨(some 12), none, .mv false (.t 32), none⟩,
  ⟨(some 13), none, .mv false (.t 33), none⟩] (some [1, 2, 3, 4, 11, 13])) (
.seq (.seq (.reg false [
  ⟨(some 34), none, .mv false (.t 13), none⟩,
  ⟨(some 35), none, .not (.t 34), none⟩,
  ⟨(some 36), none, .mv false (.t 35), none⟩,
  ⟨(some 37), some (36, false), .mv false (.t 1), none⟩,
  ⟨(some 38), some (36, false), .mv false (.t 2), none⟩,
  ⟨(some 39), some (36, false), .bin .eql .u32 (.t 37) (.t 38), none⟩,
  ⟨(some 40), none, .pick (.t 36) (.c (.bool true)) (.t 39), none⟩,
  ⟨(some 41), none, .mv false (.t 40), none⟩,
  ⟨(some 42), some (41, false), .mv false (.t 3), none⟩,
  ⟨(some 43), some (41, false), .mv false (.t 4), none⟩,
  ⟨(some 44), some (41, false), .bin .eql .u32 (.t 42) (.t 43), none⟩,
  ⟨(some 45), none, .pick (.t 41) (.c (.bool true)) (.t 44), none⟩,
  ⟨(some 46), none, .mv false (.t 45), none⟩,
  ⟨(some 47), some (46, false), .mv false (.t 1), none⟩,
  ⟨(some 48), some (46, false), .mv false (.t 4), none⟩,
  ⟨(some 49), some (46, false), .bin .eql .u32 (.t 47) (.t 48), none⟩,
  ⟨(some 50), none, .pick (.t 46) (.c (.bool true)) (.t 49), none⟩,
  ⟨(some 51), none, .mv false (.t 50), none⟩,
  ⟨(some 52), some (51, false), .mv false (.t 2), none⟩,
  ⟨(some 53), some (51, false), .mv false (.t 3), none⟩,
  ⟨(some 54), some (51, false), .bin .eql .u32 (.t 52) (.t 53), none⟩,
  ⟨(some 55), none, .pick (.t 51) (.c (.bool true)) (.t 54), none⟩] (some [1, 2, 3, 4, 11, 55])) (
.ite (.t 55) (
  .seq (.reg false [
    ⟨(some 56), none, .call false 13 [], none⟩,
    ⟨(some 10), none, .mv false (.t 56), none⟩] (some [10])) (
  .ret)) (
  .skip))) (
.seq (.reg false [
  ⟨(some 58), none, .ld (some 2) (.t 11), none⟩,
  ⟨(some 59), none, .mv false (.t 1), none⟩,
  ⟨(some 60), none, .mv false (.t 3), none⟩,
  ⟨(some 61), none, .call false 11 [(.t 58), (.t 59), (.t 60)], none⟩,
  ⟨(some 57), none, .mv false (.t 61), none⟩,
  ⟨(some 62), none, .ext (.t 57) 0, none⟩,
  ⟨(some 63), none, .ext (.t 57) 1, none⟩,
  ⟨(some 14), none, .alloc [(.mp [] []), (.mp [] [])], none⟩,
  ⟨none, none, .st (some 2) (.t 14) (.t 62), none⟩,
  ⟨(some 15), none, .mv false (.t 63), none⟩] (some [1, 2, 3, 4, 11, 14, 15])) (
.seq (.reg false [
  ⟨(some 65), none, .ld (some 2) (.t 14), none⟩,
  ⟨(some 66), none, .mv false (.t 2), none⟩,
  ⟨(some 67), none, .mv false (.t 4), none⟩,
  ⟨(some 68), none, .call false 11 [(.t 65), (.t 66), (.t 67)], none⟩,
  ⟨(some 64), none, .mv false (.t 68), none⟩,
  ⟨(some 69), none, .ext (.t 64) 0, none⟩,
  ⟨(some 70), none, .ext (.t 64) 1, none⟩,
  ⟨none, none, .st (some 2) (.t 14) (.t 69), none⟩,
  ⟨(some 16), none, .mv false (.t 70), none⟩] (some [1, 2, 3, 4, 11, 14, 15, 16])) (
.seq (.reg false [
  ⟨(some 72), none, .ld (some 2) (.t 11), none⟩,
  ⟨(some 73), none, .mv false (.t 2), none⟩,
  ⟨(some 74), none, .mv false (.t 4), none⟩,
  ⟨(some 75), none, .call false 11 [(.t 72), (.t 73), (.t 74)], none⟩,
  ⟨(some 71), none, .mv false (.t 75), none⟩,
  ⟨(some 76), none, .ext (.t 71) 0, none⟩,
  ⟨(some 77), none, .ext (.t 71) 1, none⟩,
  ⟨(some 17), none, .alloc [(.mp [] []), (.mp [] [])], none⟩,
  ⟨none, none, .st (some 2) (.t 17) (.t 76), none⟩,
  ⟨(some 18), none, .mv false (.t 77), none⟩] (some [1, 2, 3, 11, 14, 15, 16, 17, 18])) (
.seq (.reg false [
  ⟨(some 79), none, .ld (some 2) (.t 17), none⟩,
  ⟨(some 80), none, .mv false (.t 1), none⟩,
  ⟨(some 81), none, .mv false (.t 3), none⟩,
  ⟨(some 82), none, .call false 11 [(.t 79), (.t 80), (.t 81)], none⟩,
  ⟨(some 78), none, .mv false (.t 82), none⟩,
  ⟨(some 83), none, .ext (.t 78) 0, none⟩,
  ⟨(some 84), none, .ext (.t 78) 1, none⟩,
  ⟨none, none, .st (some 2) (.t 17) (.t 83), none⟩,
  ⟨(some 19), none, .mv false (.t 84), none⟩] (some [1, 2, 11, 14, 15, 16, 17, 18, 19])) (
.seq (.seq (.reg true [
  ⟨(some 85), none, .mv false (.t 15), none⟩,
  ⟨(some 86), none, .bin .eql .i64 (.t 85) (.c (.int .i64 0)), none⟩,
  ⟨(some 87), none, .mv false (.t 86), none⟩,
  ⟨(some 88), some (87, true), .mv false (.t 16), none⟩,
  ⟨(some 89), some (87, true), .bin .eql .i64 (.t 88) (.c (.int .i64 0)), none⟩,
  ⟨(some 90), none, .pick (.t 87) (.t 89) (.c (.bool false)), none⟩,
  ⟨(some 91), none, .mv false (.t 90), none⟩,
  ⟨(some 92), some (91, true), .mv false (.t 18), none⟩,
  ⟨(some 93), some (91, true), .bin .neq .i64 (.t 92) (.c (.int .i64 0)), none⟩,
  ⟨(some 94), some (91, true), .mv false (.t 93), none⟩,
  ⟨(some 95), some (94, false), .mv false (.t 19), none⟩,
  ⟨(some 96), some (94, false), .bin .neq .i64 (.t 95) (.c (.int .i64 0)), none⟩,
  ⟨(some 97), some (91, true), .pick (.t 94) (.c (.bool true)) (.t 96), none⟩,
  ⟨(some 98), some (91, true), .mv false (.t 97), none⟩,
  ⟨(some 99), some (98, false), .ld (some 2) (.t 14), none⟩,
  ⟨(some 100), some (98, false), .call false 14 [(.t 99), (.c (.int .u32 1))], none⟩,
  ⟨(some 101), some (98, false), .ld (some 2) (.t 17), none⟩,
  ⟨(some 102), some (98, false), .call false 14 [(.t 101), (.c (.int .u32 1))], none⟩,
  ⟨(some 103), some (98, false), .call false 17 [(.t 100), (.t 102)], none⟩,
  ⟨(some 104), some (98, false), .not (.t 103), none⟩,
  ⟨(some 105), some (91, true), .pick (.t 98) (.c (.bool true)) (.t 104), none⟩,
  ⟨(some 106), none, .pick (.t 91) (.t 105) (.c (.bool false)), none⟩] (some [1, 2, 11, 106])) (
.ite (.t 106) (
  .seq (.reg false [
    ⟨(some 10), none, .mv false (.c (.bool false)), none⟩] (some [10])) (
  .ret)) (
  .skip))) (
.seq (.reg false [
  ⟨(some 108), none, .ld (some 2) (.t 11), none⟩,
  ⟨(some 109), none, .mv false (.t 1), none⟩,
  ⟨(some 110), none, .call false 26 [(.t 108), (.t 109)], none⟩,
  ⟨(some 107), none, .mv false (.t 110), none⟩,
  ⟨(some 111), none, .ext (.t 107) 0, none⟩,
  ⟨(some 112), none, .ext (.t 107) 1, none⟩,
  ⟨(some 20), none, .mv false (.t 111), none⟩,
  ⟨(some 21), none, .mv false (.t 112), none⟩] (some [1, 2, 11, 20, 21])) (
.seq (.reg false [
  ⟨(some 114), none, .ld (some 2) (.t 11), none⟩,
  ⟨(some 115), none, .mv false (.t 2), none⟩,
  ⟨(some 116), none, .call false 26 [(.t 114), (.t 115)], none⟩,
  ⟨(some 113), none, .mv false (.t 116), none⟩,
  ⟨(some 117), none, .ext (.t 113) 0, none⟩,
  ⟨(some 118), none, .ext (.t 113) 1, none⟩,
  ⟨(some 22), none, .mv false (.t 117), none⟩,
  ⟨(some 23), none, .mv false (.t 118), none⟩] (some [1, 2, 11, 20, 21, 22, 23])) (
.seq (.seq (.reg false [
  ⟨(some 119), none, .mv false (.t 21), none⟩,
  ⟨(some 120), none, .not (.t 119), none⟩,
  ⟨(some 121), none, .mv false (.t 120), none⟩,
  ⟨(some 122), some (121, false), .mv false (.t 23), none⟩,
  ⟨(some 123), some (121, false), .not (.t 122), none⟩,
  ⟨(some 124), none, .pick (.t 121) (.c (.bool true)) (.t 123), none⟩,
  ⟨(some 125), none, .mv false (.t 124), none⟩,
  ⟨(some 126), some (125, false), .mv false (.t 20), none⟩,
  ⟨(some 127), some (125, false), .mv false (.t 22), none⟩,
  ⟨(some 128), some (125, false), .bin .neq .u32 (.t 126) (.t 127), none⟩,
  ⟨(some 129), none, .pick (.t 125) (.c (.bool true)) (.t 128), none⟩] (some [1, 2, 11, 20, 129])) (
.ite (.t 129) (
  .seq (.reg false [
    ⟨(some 130), none, .call false 13 [], none⟩,
    ⟨(some 10), none, .mv false (.t 130), none⟩] (some [10])) (
  .ret)) (
  .skip))) (
.seq (.reg false [
  ⟨(some 132), none, .ld (some 2) (.t 11), none⟩,
  ⟨(some 133), none, .mv false (.t 1), none⟩,
  ⟨(some 134), none, .mv false (.t 20), none⟩,
  ⟨(some 135), none, .call false 16 [(.t 132), (.t 133), (.t 134)], none⟩,
  ⟨(some 131), none, .mv false (.t 135), none⟩,
  ⟨(some 136), none, .ext (.t 131) 0, none⟩,
  ⟨(some 137), none, .ext (.t 131) 1, none⟩,
  ⟨(some 24), none, .alloc [(.mp [] []), (.mp [] [])], none⟩,
  ⟨none, none, .st (some 2) (.t 24) (.t 136), none⟩,
  ⟨(some 25), none, .mv false (.t 137), none⟩] (some [1, 2, 20, 24, 25])) (
.seq (.reg false [
  ⟨(some 139), none, .ld (some 2) (.t 24), none⟩,
  ⟨(some 140), none, .mv false (.t 2), none⟩,
  ⟨(some 141), none, .mv false (.t 20), none⟩,
  ⟨(some 142), none, .call false 16 [(.t 139), (.t 140), (.t 141)], none⟩,
  ⟨(some 138), none, .mv false (.t 142), none⟩,
  ⟨(some 143), none, .ext (.t 138) 0, none⟩,
  ⟨(some 144), none, .ext (.t 138) 1, none⟩,
  ⟨none, none, .st (some 2) (.t 24) (.t 143), none⟩,
  ⟨(some 26), none, .mv false (.t 144), none⟩] (some [1, 2, 20, 24, 25, 26])) (
.seq (.reg false [
  ⟨(some 145), none, .ld (some 2) (.t 24), none⟩,
  ⟨(some 146), none, .mv false (.t 20), none⟩,
  ⟨(some 147), none, .call false 23 [(.t 145), (.t 146)], none⟩,
  ⟨(some 27), none, .mv false (.t 147), none⟩] (some [1, 2, 25, 26, 27])) (
.seq (.reg false [
  ⟨(some 148), none, .call false 13 [], none⟩,
  ⟨(some 149), none, .mv false (.t 148), none⟩,
  ⟨(some 150), some (149, true), .mv false (.t 25), none⟩,
  ⟨(some 151), some (149, true), .bin .eql .i64 (.t 150) (.c (.int .i64 0)), none⟩,
  ⟨(some 152), none, .pick (.t 149) (.t 151) (.c (.bool false)), none⟩,
  ⟨(some 153), none, .mv false (.t 152), none⟩,
  ⟨(some 154), some (153, true), .mv false (.t 26), none⟩,
  ⟨(some 155), some (153, true), .bin .eql .i64 (.t 154) (.c (.int .i64 0)), none⟩,
  ⟨(some 156), none, .pick (.t 153) (.t 155) (.c (.bool false)), none⟩,
  ⟨(some 157), none, .mv false (.t 156), none⟩,
  ⟨(some 158), some (157, true), .mv false (.t 27), none⟩,
  ⟨(some 159), some (157, true), .len false (.t 158), none⟩,
  ⟨(some 160), some (157, true), .bin .geq .i64 (.t 159) (.c (.int .i64 2)), none⟩,
  ⟨(some 161), none, .pick (.t 157) (.t 160) (.c (.bool false)), none⟩,
  ⟨(some 162), none, .mv false (.t 161), none⟩,
  ⟨(some 163), some (162, true), .mv false (.t 27), none⟩,
  ⟨(some 164), some (162, true), .mv false (.t 27), none⟩,
  ⟨(some 165), some (162, true), .len false (.t 164), none⟩,
  ⟨(some 166), some (162, true), .bin .sub .i64 (.t 165) (.c (.int .i64 2)), none⟩,
  ⟨(some 167), some (162, true), .ixs 1 (.t 163) (.t 166), none⟩,
  ⟨(some 168), some (162, true), .ld none (.t 167), none⟩,
  ⟨(some 169), some (162, true), .mv false (.t 1), none⟩,
  ⟨(some 170), some (162, true), .bin .eql .u32 (.t 168) (.t 169), none⟩,
  ⟨(some 171), none, .pick (.t 162) (.t 170) (.c (.bool false)), none⟩,
  ⟨(some 172), none, .mv false (.t 171), none⟩,
  ⟨(some 173), some (172, true), .mv false (.t 27), none⟩,
  ⟨(some 174), some (172, true), .mv false (.t 27), none⟩,
  ⟨(some 175), some (172, true), .len false (.t 174), none⟩,
  ⟨(some 176), some (172, true), .bin .sub .i64 (.t 175) (.c (.int .i64 1)), none⟩,
  ⟨(some 177), some (172, true), .ixs 1 (.t 173) (.t 176), none⟩,
  ⟨(some 178), some (172, true), .ld none (.t 177), none⟩,
  ⟨(some 179), some (172, true), .mv false (.t 2), none⟩,
  ⟨(some 180), some (172, true), .bin .eql .u32 (.t 178) (.t 179), none⟩,
  ⟨(some 181), none, .pick (.t 172) (.t 180) (.c (.bool false)), none⟩,
  ⟨(some 10), none, .mv false (.t 181), none⟩] (some [10])) (
.ret)))))))))))))))
set_option maxRecDepth 1000000 in
theorem comp_law28_TreeTurns : (Try.f6.body.bind fun code => compC Try.prog Try.f6.ntmps code c_law28_TreeTurns) = some c_law28_TreeTurns.bare := by kernel_rfl
def r_law28_TreeTurns : List R := [.t 10]
theorem spo_law28_TreeTurns {ds : List D} {d : D} (hn : Nat.ble ds.length 182 = true) (h : run TSpC gtab 0 c_law28_TreeTurns (retK r_law28_TreeTurns (· = d)) ⟨env0 0 ds, []⟩) : TSp 6 ds d := Sp_of mixed c_law28_TreeTurns r_law28_TreeTurns (fn := Try.f6) (by kernel_rfl) (by kernel_rfl) comp_law28_TreeTurns (by kernel_rfl) hn h
theorem spm_law28_TreeTurns {ds : List D} {d : D} {bx bx' : List Ent} (hn : Nat.ble ds.length 182 = true) (h : run TSpC gtab (sizeE bx) c_law28_TreeTurns (retG r_law28_TreeTurns (fun d1 bx1 => Rt (sizeE bx) bx1 d1 d bx')) ⟨env0 0 ds, bx⟩) : TSpM 6 ds bx d bx' := SpM_of mixed c_law28_TreeTurns r_law28_TreeTurns (fn := Try.f6) (by kernel_rfl) (by kernel_rfl) comp_law28_TreeTurns (by kernel_rfl) hn h
/-- glazier/glazierlaw28.TreePlays -/
def c_law28_TreePlays : C := .seq (.reg false [
  ⟨(some 2), none, .mv false (.c (.bool false)), none⟩] (some [0])) (
.seq (.seq (.reg false [
  ⟨(some 15), none, .mv false (.t 0), none⟩,
  ⟨(some 16), none, .len false (.t 15), none⟩,
  ⟨(some 17), none, .bin .gtr .i64 (.t 16) (.c (.int .i64 40)), none⟩] (some [0, 17])) (
.ite (.t 17) (
  .seq (.reg false [
    ⟨(some 18), none, .call false 13 [], none⟩,
    ⟨(some 2), none, .mv false (.t 18), none⟩] (some [2])) (
  .ret)) (
  .skip))) (
.seq (.reg false [
  ⟨(some 19), none, .call false 10 [], none⟩,
  ⟨(some 3), none, .alloc [(.mp [] []), (.mp [] [])], none⟩,
  ⟨none, none, .st (some 2) (.t 3) (.t 19), none⟩] (some [0, 3])) (
.seq (.reg false [
  ⟨(some 4), none, .nilF 67 2, none⟩] (some [0, 3, 4])) (
.seq (.seq (.reg false [
  ⟨(some 20), none, .mv false (.t 0), none⟩,
  ⟨(some 21), none, .len false (.t 20), none⟩,
  ⟨(some 22), none, .mv false (.c (.int .i64 0)), none⟩] (some [3, 4, 20, 21, 22])) (
.blk 0 (
  .loop (
    .seq (.reg false [
      ⟨(some 23), none, .bin .lss .i64 (.t 22) (.t 21), none⟩] (some [3, 4, 20, 21, 22, 23])) (
    .seq (.ite (.t 23) (
      .skip) (
      .exit 0)) (
    .seq (.blk 1 (
      .seq (.reg false [
        ⟨(some 24), none, .ixs 4 (.t 20) (.t 22), none⟩,
        ⟨(some 25), none, .ld (some 4) (.t 24), none⟩,
        ⟨(some 6), none, .alloc [(.int .u8 0), (.int .u32 0), (.int .u32 0), (.int .i64 0)], none⟩,
        ⟨none, none, .st (some 4) (.t 6) (.t 25), none⟩] (some [3, 4, 6, 20, 21, 22])) (
      .seq (.reg false [
        ⟨(some 26), none, .ld (some 2) (.t 3), none⟩,
        ⟨(some 27), none, .mv false (.t 4), none⟩,
        ⟨(some 7), none, .alloc [(.mp [] []), (.mp [] [])], none⟩,
        ⟨none, none, .st (some 2) (.t 7) (.t 26), none⟩,
        ⟨(some 8), none, .mv false (.t 27), none⟩] (some [3, 4, 6, 7, 8, 20, 21, 22])) (
      .seq (.reg false [
        ⟨(some 29), none, .ld (some 2) (.t 3), none⟩,
        ⟨(some 30), none, .ld (some 4) (.t 6), none⟩,
        ⟨(some 31), none, .call false 27 [(.t 29), (.t 30)], none⟩,
        ⟨(some 28), none, .mv false (.t 31), none⟩,
        ⟨(some 32), none, .ext (.t 28) 0, none⟩,
        ⟨(some 33), none, .ext (.t 28) 1, none⟩,
        ⟨(some 34), none, .ext (.t 28) 2, none⟩,
        ⟨(some 9), none, .alloc [(.mp [] []), (.mp [] [])], none⟩,
        ⟨none, none, .st (some 2) (.t 9) (.t 32), none⟩,
        ⟨(some 10), none, .mv false (.t 33), none⟩,
        ⟨(some 11), none, .mv false (.t 34), none⟩] (some [3, 4, 6, 7, 8, 9, 10, 11, 20, 21, 22])) (
      .seq (.reg false [
        ⟨(some 36), none, .mv false (.t 4), none⟩,
        ⟨(some 37), none, .ld (some 4) (.t 6), none⟩,
        ⟨(some 38), none, .call false 28 [(.t 36), (.t 37)], none⟩,
        ⟨(some 35), none, .mv false (.t 38), none⟩,
        ⟨(some 39), none, .ext (.t 35) 0, none⟩,
        ⟨(some 40), none, .ext (.t 35) 1, none⟩,
        ⟨(some 41), none, .ext (.t 35) 2, none⟩,
        ⟨(some 12), none, .mv false (.t 39), none⟩,
        ⟨(some 13), none, .mv false (.t 40), none⟩,
        ⟨(some 14), none, .mv false (.t 41), none⟩] (some [3, 7, 8, 9, 10, 11, 12, 13, 14, 20, 21, 22])) (
      .seq (.reg false [
        ⟨(some 42), none, .ld (some 2) (.t 9), none⟩,
        ⟨(some 43), none, .mv false (.t 12), none⟩,
        ⟨none, none, .st (some 2) (.t 3) (.t 42), none⟩,
        ⟨(some 4), none, .mv false (.t 43), none⟩] (some [3, 4, 7, 8, 10, 11, 13, 14, 20, 21, 22])) (
      .seq (.reg false [
        ⟨(some 44), none, .mv false (.t 11), none⟩,
        ⟨(some 45), none, .mv false (.t 14), none⟩,
        ⟨(some 46), none, .bin .neq .i64 (.t 44) (.t 45), none⟩,
        ⟨(some 47), none, .mv false (.t 46), none⟩,
        ⟨(some 48), some (47, false), .mv false (.t 10), none⟩,
        ⟨(some 49), some (47, false), .mv false (.t 13), none⟩,
        ⟨(some 50), some (47, false), .call false 17 [(.t 48), (.t 49)], none⟩,
        ⟨(some 51), some (47, false), .not (.t 50), none⟩,
        ⟨(some 52), none, .pick (.t 47) (.c (.bool true)) (.t 51), none⟩,
        ⟨(some 53), none, .mv false (.t 52), none⟩,
        ⟨(some 54), some (53, false), .ld (some 2) (.t 3), none⟩,
        ⟨(some 55), some (53, false), .mv false (.t 4), none⟩,
        ⟨(some 56), some (53, false), .call false 29 [(.t 54), (.t 55)], none⟩,
        ⟨(some 57), some (53, false), .not (.t 56), none⟩,
        ⟨(some 58), none, .pick (.t 53) (.c (.bool true)) (.t 57), none⟩,
        ⟨(some 59), none, .mv false (.t 58), none⟩,
        ⟨(some 60), some (59, false), .ld (some 2) (.t 7), none⟩,
        ⟨(some 61), some (59, false), .mv false (.t 8), none⟩,
        ⟨(some 62), some (59, false), .call false 29 [(.t 60), (.t 61)], none⟩,
        ⟨(some 63), some (59, false), .not (.t 62), none⟩,
        ⟨(some 64), none, .pick (.t 59) (.c (.bool true)) (.t 63), none⟩] (some [3, 4, 20, 21, 22, 64])) (
      .ite (.t 64) (
        .seq (.reg false [
          ⟨(some 2), none, .mv false (.c (.bool false)), none⟩] (some [2])) (
        .ret)) (
        .skip))))))))) (
    .reg false [
      ⟨(some 65), none, .bin .add .i64 (.t 22) (.c (.int .i64 1)), none⟩,
      ⟨(some 22), none, .mv false (.t 65), none⟩] (some [3, 4, 20, 21, 22])))))))) (
.seq (.reg false [
  ⟨(some 66), none, .call false 13 [], none⟩,
  ⟨(some 67), none, .mv false (.t 66), none⟩,
  ⟨(some 68), some (67, true), .bld [(.mp [] []), (.mp [] [])] [], none⟩,
  ⟨(some 69), some (67, true), .call false 29 [(.t 68), (.c (.ls 2 []))], none⟩,
  ⟨(some 70), none, .pick (.t 67) (.t 69) (.c (.bool false)), none⟩,
  ⟨(some 2), none, .mv false (.t 70), none⟩] (some [2])) (
.ret))))))
set_option maxRecDepth 1000000 in
theorem comp_law28_TreePlays : (Try.f7.body.bind fun code => compC Try.prog Try.f7.ntmps code c_law28_TreePlays) = some c_law28_TreePlays.bare := by kernel_rfl
def r_law28_TreePlays : List R := [.t 2]
theorem spo_law28_TreePlays {ds : List D} {d : D} (hn : Nat.ble ds.length 71 = true) (h : run TSpC gtab 0 c_law28_TreePlays (retK r_law28_TreePlays (· = d)) ⟨env0 0 ds, []⟩) : TSp 7 ds d := Sp_of mixed c_law28_TreePlays r_law28_TreePlays (fn := Try.f7) (by kernel_rfl) (by kernel_rfl) comp_law28_TreePlays (by kernel_rfl) hn h
theorem spm_law28_TreePlays {ds : List D} {d : D} {bx bx' : List Ent} (hn : Nat.ble ds.length 71 = true) (h : run TSpC gtab (sizeE bx) c_law28_TreePlays (retG r_law28_TreePlays (fun d1 bx1 => Rt (sizeE bx) bx1 d1 d bx')) ⟨env0 0 ds, bx⟩) : TSpM 7 ds bx d bx' := SpM_of mixed c_law28_TreePlays r_law28_TreePlays (fn := Try.f7) (by kernel_rfl) (by kernel_rfl) comp_law28_TreePlays (by kernel_rfl) hn h
/-- glazier/glazierlaw28.TreeWhole -/
def c_law28_TreeWhole : C := .seq (.reg false [
  ⟨(some 2), none, .mv false (.c (.bool false)), none⟩] (some [0])) (
.seq (.reg false [
  ⟨(some 18), none, .mv false (.t 0), none⟩,
  ⟨(some 19), none, .call false 15 [(.t 18)], none⟩,
  ⟨(some 17), none, .mv false (.t 19), none⟩,
  ⟨(some 20), none, .ext (.t 17) 0, none⟩,
  ⟨(some 21), none, .ext (.t 17) 1, none⟩,
  ⟨(some 22), none, .ext (.t 17) 2, none⟩,
  ⟨(some 3), none, .alloc [(.mp [] []), (.mp [] [])], none⟩,
  ⟨none, none, .st (some 2) (.t 3) (.t 20), none⟩,
  ⟨(some 4), none, .mv false (.t 21), none⟩,
  ⟨(some 5), none, .mv false (.t 22), none⟩] (some [3, 5])) (
.seq (.seq (.reg false [
  ⟨(some 23), none, .mv false (.t 5), none⟩,
  ⟨(some 24), none, .not (.t 23), none⟩] (some [3, 24])) (
.ite (.t 24) (
  .seq (.reg false [
    ⟨(some 25), none, .call false 13 [], none⟩,
    ⟨(some 2), none, .mv false (.t 25), none⟩] (some [2])) (
  .ret)) (
  .skip))) (
.seq (.reg false [
  ⟨(some 26), none, .prm false true (.mkm 58) [], none⟩,
  ⟨(some 6), none, .mv false (.t 26), none⟩] (some [3, 6])) (
.seq (.seq (.reg false [
  ⟨(some 27), none, .ld (some 2) (.t 3), none⟩,
  ⟨(some 28), none, .call false 14 [(.t 27), (.c (.int .u32 1))], none⟩,
  ⟨(some 29), none, .len false (.t 28), none⟩,
  ⟨(some 30), none, .mv false (.c (.int .i64 0)), none⟩] (some [3, 6, 28, 29, 30])) (
.blk 0 (
  .loop (
    .seq (.reg false [
      ⟨(some 31), none, .bin .lss .i64 (.t 30) (.t 29), none⟩] (some [3, 6, 28, 29, 30, 31])) (
    .seq (.ite (.t 31) (
      .skip) (
      .exit 0)) (
    .seq (.blk 1 (
      .seq (.reg false [
        ⟨(some 32), none, .mv false (.t 30), none⟩,
        ⟨(some 33), none, .ixs 1 (.t 28) (.t 30), none⟩,
        ⟨(some 34), none, .ld none (.t 33), none⟩,
        ⟨(some 7), none, .mv false (.t 32), none⟩,
        ⟨(some 8), none, .mv false (.t 34), none⟩] (some [3, 6, 7, 8, 28, 29, 30])) (
      .seq (.reg false [
        ⟨(some 36), none, .ld (some 2) (.t 3), none⟩,
        ⟨(some 37), none, .mv false (.t 8), none⟩,
        ⟨(some 38), none, .call false 26 [(.t 36), (.t 37)], none⟩,
        ⟨(some 35), none, .mv false (.t 38), none⟩,
        ⟨(some 39), none, .ext (.t 35) 0, none⟩,
        ⟨(some 40), none, .ext (.t 35) 1, none⟩,
        ⟨(some 9), none, .mv false (.t 39), none⟩,
        ⟨(some 10), none, .mv false (.t 40), none⟩] (some [3, 6, 7, 8, 9, 10, 28, 29, 30])) (
      .seq (.seq (.reg false [
        ⟨(some 41), none, .mv false (.t 6), none⟩,
        ⟨(some 42), none, .mv false (.t 8), none⟩,
        ⟨(some 43), none, .prm false false (.lkp 58 false) [(.t 41), (.t 42)], none⟩,
        ⟨(some 44), none, .mv false (.t 43), none⟩,
        ⟨(some 45), some (44, false), .ld (some 2) (.t 3), none⟩,
        ⟨(some 46), some (44, false), .mv false (.t 8), none⟩,
        ⟨(some 47), some (44, false), .call false 20 [(.t 45), (.t 46)], none⟩,
        ⟨(some 48), some (44, false), .not (.t 47), none⟩,
        ⟨(some 49), none, .pick (.t 44) (.c (.bool true)) (.t 48), none⟩,
        ⟨(some 50), none, .mv false (.t 49), none⟩,
        ⟨(some 51), some (50, false), .mv false (.t 10), none⟩,
        ⟨(some 52), some (50, false), .mv false (.t 7), none⟩,
        ⟨(some 53), some (50, false), .bin .gtr .i64 (.t 52) (.c (.int .i64 0)), none⟩,
        ⟨(some 54), some (50, false), .eqb true false (.t 51) (.t 53), none⟩,
        ⟨(some 55), none, .pick (.t 50) (.c (.bool true)) (.t 54), none⟩,
        ⟨(some 56), none, .mv false (.t 55), none⟩,
        ⟨(some 57), some (56, false), .mv false (.t 10), none⟩,
        ⟨(some 58), some (56, false), .mv false (.t 57), none⟩,
        ⟨(some 59), some (58, true), .mv false (.t 6), none⟩,
        ⟨(some 60), some (58, true), .mv false (.t 9), none⟩,
        ⟨(some 61), some (58, true), .prm false false (.lkp 58 false) [(.t 59), (.t 60)], none⟩,
        ⟨(some 62), some (58, true), .not (.t 61), none⟩,
        ⟨(some 63), some (56, false), .pick (.t 58) (.t 62) (.c (.bool false)), none⟩,
        ⟨(some 64), none, .pick (.t 56) (.c (.bool true)) (.t 63), none⟩] (some [3, 6, 8, 28, 29, 30, 64])) (
      .ite (.t 64) (
        .seq (.reg false [
          ⟨(some 2), none, .mv false (.c (.bool false)), none⟩] (some [2])) (
        .ret)) (
        .skip))) (
      .reg false [
        ⟨(some 65), none, .mv false (.t 6), none⟩,
        ⟨(some 66), none, .mv false (.t 8), none⟩,
        ⟨none, none, .prm false true (.upd 58) [(.t 65), (.t 66), (.c (.bool true))], none⟩] (some [3, 6, 28, 29, 30])))))) (
    .reg false [
      ⟨(some 67), none, .bin .add .i64 (.t 30) (.c (.int .i64 1)), none⟩,
      ⟨(some 30), none, .mv false (.t 67), none⟩] (some [3, 6, 28, 29, 30])))))))) (
.seq (.reg false [
  ⟨(some 11), none, .mv false (.c (.int .i64 1)), none⟩] (some [3, 6, 11])) (
.seq (.seq (.reg false [
  ⟨(some 68), none, .mv false (.t 6), none⟩,
  ⟨(some 69), none, .prm true true (.rng 58) [(.t 68)], none⟩] (some [3, 6, 11, 69])) (
.blk 2 (
  .loop (
    .seq (.reg false [
      ⟨(some 70), none, .prm true false (.nxt false) [(.t 69)], none⟩,
      ⟨(some 71), none, .ext (.t 70) 0, none⟩] (some [3, 6, 11, 69, 71])) (
    .seq (.ite (.t 71) (
      .skip) (
      .exit 2)) (
    .blk 3 (
      .seq (.reg false [
        ⟨(some 72), none, .prm false false .ent [(.t 69)], none⟩,
        ⟨(some 73), none, .ext (.t 72) 0, none⟩,
        ⟨(some 12), none, .mv false (.t 73), none⟩] (some [3, 6, 11, 12, 69])) (
      .seq (.reg false [
        ⟨(some 74), none, .ld (some 2) (.t 3), none⟩,
        ⟨(some 75), none, .mv false (.t 12), none⟩,
        ⟨(some 76), none, .call false 23 [(.t 74), (.t 75)], none⟩,
        ⟨(some 77), none, .len false (.t 76), none⟩,
        ⟨(some 78), none, .mv false (.c (.int .i64 0)), none⟩] (some [3, 6, 11, 12, 69, 76, 77, 78])) (
      .blk 4 (
        .loop (
          .seq (.reg false [
            ⟨(some 79), none, .bin .lss .i64 (.t 78) (.t 77), none⟩] (some [3, 6, 11, 12, 69, 76, 77, 78, 79])) (
          .seq (.ite (.t 79) (
            .skip) (
            .exit 4)) (
          .seq (.blk 5 (
            .seq (.reg false [
              ⟨(some 80), none, .ixs 1 (.t 76) (.t 78), none⟩,
              ⟨(some 81), none, .ld none (.t 80), none⟩,
              ⟨(some 14), none, .mv false (.t 81), none⟩] (some [3, 6, 11, 12, 14, 69, 76, 77, 78])) (
            .seq (.seq (.reg false [
              ⟨(some 83), none, .ld (some 2) (.t 3), none⟩,
              ⟨(some 84), none, .mv false (.t 14), none⟩,
              ⟨(some 85), none, .call false 26 [(.t 83), (.t 84)], none⟩,
              ⟨(some 82), none, .mv false (.t 85), none⟩,
              ⟨(some 86), none, .ext (.t 82) 0, none⟩,
              ⟨(some 87), none, .ext (.t 82) 1, none⟩,
              ⟨(some 15), none, .mv false (.t 86), none⟩,
              ⟨(some 16), none, .mv false (.t 87), none⟩] (some [3, 6, 11, 12, 14, 15, 69, 76, 77, 78])) (
            .seq (.reg false [
              ⟨(some 88), none, .mv false (.t 15), none⟩,
              ⟨(some 89), none, .mv false (.t 12), none⟩,
              ⟨(some 90), none, .bin .neq .u32 (.t 88) (.t 89), none⟩,
              ⟨(some 91), none, .mv false (.t 90), none⟩,
              ⟨(some 92), some (91, false), .mv false (.t 6), none⟩,
              ⟨(some 93), some (91, false), .mv false (.t 14), none⟩,
              ⟨(some 94), some (91, false), .prm false false (.lkp 58 false) [(.t 92), (.t 93)], none⟩,
              ⟨(some 95), some (91, false), .not (.t 94), none⟩,
              ⟨(some 96), none, .pick (.t 91) (.c (.bool true)) (.t 95), none⟩] (some [3, 6, 11, 12, 69, 76, 77, 78, 96])) (
            .ite (.t 96) (
              .seq (.reg false [
                ⟨(some 2), none, .mv false (.c (.bool false)), none⟩] (some [2])) (
              .ret)) (
              .skip)))) (
            .reg false [
              ⟨(some 97), none, .mv false (.t 11), none⟩,
              ⟨(some 98), none, .bin .add .i64 (.t 97) (.c (.int .i64 1)), none⟩,
              ⟨(some 11), none, .mv false (.t 98), none⟩] (some [3, 6, 11, 12, 69, 76, 77, 78]))))) (
          .reg false [
            ⟨(some 99), none, .bin .add .i64 (.t 78) (.c (.int .i64 1)), none⟩,
            ⟨(some 78), none, .mv false (.t 99), none⟩] (some [3, 6, 11, 12, 69, 76, 77, 78]))))))))))))))) (
.seq (.reg false [
  ⟨(some 100), none, .call false 13 [], none⟩,
  ⟨(some 101), none, .mv false (.t 100), none⟩,
  ⟨(some 102), some (101, true), .mv false (.t 11), none⟩,
  ⟨(some 103), some (101, true), .mv false (.t 6), none⟩,
  ⟨(some 104), some (101, true), .prm false false (.lenm 58) [(.t 103)], none⟩,
  ⟨(some 105), some (101, true), .bin .eql .i64 (.t 102) (.t 104), none⟩,
  ⟨(some 106), none, .pick (.t 101) (.t 105) (.c (.bool false)), none⟩,
  ⟨(some 107), none, .mv false (.t 106), none⟩,
  ⟨(some 108), some (107, true), .mv false (.t 11), none⟩,
  ⟨(some 109), some (107, true), .bin .leq .i64 (.t 108) (.c (.int .i64 64)), none⟩,
  ⟨(some 110), none, .pick (.t 107) (.t 109) (.c (.bool false)), none⟩,
  ⟨(some 2), none, .mv false (.t 110), none⟩] (some [2])) (
.ret))))))))
set_option maxRecDepth 1000000 in
theorem comp_law28_TreeWhole : (Try.f8.body.bind fun code => compC Try.prog Try.f8.ntmps code c_law28_TreeWhole) = some c_law28_TreeWhole.bare := by kernel_rfl
def r_law28_TreeWhole : List R := [.t 2]
theorem spo_law28_TreeWhole {ds : List D} {d : D} (hn : Nat.ble ds.length 111 = true) (h : run TSpC gtab 0 c_law28_TreeWhole (retK r_law28_TreeWhole (· = d)) ⟨env0 0 ds, []⟩) : TSp 8 ds d := Sp_of mixed c_law28_TreeWhole r_law28_TreeWhole (fn := Try.f8) (by kernel_rfl) (by kernel_rfl) comp_law28_TreeWhole (by kernel_rfl) hn h
theorem spm_law28_TreeWhole {ds : List D} {d : D} {bx bx' : List Ent} (hn : Nat.ble ds.length 111 = true) (h : run TSpC gtab (sizeE bx) c_law28_TreeWhole (retG r_law28_TreeWhole (fun d1 bx1 => Rt (sizeE bx) bx1 d1 d bx')) ⟨env0 0 ds, bx⟩) : TSpM 8 ds bx d bx' := SpM_of mixed c_law28_TreeWhole r_law28_TreeWhole (fn := Try.f8) (by kernel_rfl) (by kernel_rfl) comp_law28_TreeWhole (by kernel_rfl) hn h
/-- glazier/glazierlaw28.TreeBack -/
def c_law28_TreeBack : C := .seq (.reg false [
  ⟨(some 8), none, .mv false (.c (.bool false)), none⟩] (some [0, 1, 2, 3])) (
.seq (.reg false [
  ⟨(some 32), none, .mv false (.t 0), none⟩,
  ⟨(some 33), none, .call false 15 [(.t 32)], none⟩,
  ⟨(some 31), none, .mv false (.t 33), none⟩,
  ⟨(some 34), none, .ext (.t 31) 0, none⟩,
  ⟨(some 35), none, .ext (.t 31) 1, none⟩,
  ⟨(some 36), none, .ext (.t 31) 2, none⟩,
  ⟨(some 9), none, .alloc [(.mp [] []), (.mp [] [])], none⟩,
  ⟨none, none, .st (some 2) (.t 9) (.t 34), none⟩,
  ⟨(some 10), none, .mv false (.t 35), none⟩,
  ⟨(some 11), none, .mv false (.t 36), none⟩] (some [1, 2, 3, 9, 11])) (
.seq (.seq (.reg false [
  ⟨(some 37), none, .mv false (.t 11), none⟩,
  ⟨(some 38), none, .not (.t 37), none⟩] (some [1, 2, 3, 9, 38])) (
.ite (.t 38) (
  .seq (.reg false [
    ⟨(some 39), none, .call false 13 [], none⟩,
    ⟨(some 8), none, .mv false (.t 39), none⟩] (some [8])) (
  .ret)) (
  .skip))) (
.seq (.seq (.reg false [
  ⟨(some 41), none, .ld (some 2) (.t 9), none⟩,
  ⟨(some 42), none, .mv false (.t 1), none⟩,
  ⟨(some 43), none, .mv false (.t 2), none⟩,
  ⟨(some 44), none, .call false 11 [(.t 41), (.t 42), (.t 43)], none⟩,
  ⟨(some 40), none, .mv false (.t 44), none⟩,
  ⟨(some 45), none, .ext (.t 40) 0, none⟩,
  ⟨(some 46), none, .ext (.t 40) 1, none⟩,
  ⟨(some 12), none, .alloc [(.mp [] []), (.mp [] [])], none⟩,
  ⟨none, none, .st (some 2) (.t 12) (.t 45), none⟩,
  ⟨(some 13), none, .mv false (.t 46), none⟩] (some [1, 3, 9, 12, 13])) (
.seq (.reg false [
  ⟨(some 47), none, .mv false (.t 13), none⟩,
  ⟨(some 48), none, .bin .eql .i64 (.t 47) (.c (.int .i64 0)), none⟩] (some [1, 3, 9, 12, 48])) (
.ite (.t 48) (
  .seq (.reg false [
    ⟨(some 50), none, .ld (some 2) (.t 12), none⟩,
    ⟨(some 51), none, .mv false (.t 1), none⟩,
    ⟨(some 52), none, .call false 30 [(.t 50), (.t 51)], none⟩,
    ⟨(some 49), none, .mv false (.t 52), none⟩,
    ⟨(some 53), none, .ext (.t 49) 0, none⟩,
    ⟨(some 54), none, .ext (.t 49) 1, none⟩,
    ⟨(some 55), none, .ext (.t 49) 2, none⟩,
    ⟨(some 14), none, .alloc [(.mp [] []), (.mp [] [])], none⟩,
    ⟨none, none, .st (some 2) (.t 14) (.t 53), none⟩,
    ⟨(some 15), none, .mv false (.t 54), none⟩,
    ⟨(some 16), none, .mv false (.t 55), none⟩] (some [1, 3, 9, 14, 15, 16])) (
  .seq (.reg true [
    ⟨(some 56), none, .mv false (.t 16), none⟩,
    ⟨(some 57), none, .bin .neq .i64 (.t 56) (.c (.int .i64 0)), none⟩,
    ⟨(some 58), none, .mv false (.t 57), none⟩,
    ⟨(some 59), some (58, false), .mv false (.t 15), none⟩,
    ⟨(some 60), some (58, false), .mv false (.t 1), none⟩,
    ⟨(some 61), some (58, false), .bsl none 28 1 none [(.t 60)], none⟩,
    ⟨(some 62), some (58, false), .call false 17 [(.t 59), (.t 61)], none⟩,
    ⟨(some 63), some (58, false), .not (.t 62), none⟩,
    ⟨(some 64), none, .pick (.t 58) (.c (.bool true)) (.t 63), none⟩,
    ⟨(some 65), none, .mv false (.t 64), none⟩,
    ⟨(some 66), some (65, false), .ld (some 2) (.t 14), none⟩,
    ⟨(some 67), some (65, false), .call false 14 [(.t 66), (.c (.int .u32 1))], none⟩,
    ⟨(some 68), some (65, false), .ld (some 2) (.t 9), none⟩,
    ⟨(some 69), some (65, false), .call false 14 [(.t 68), (.c (.int .u32 1))], none⟩,
    ⟨(some 70), some (65, false), .call false 17 [(.t 67), (.t 69)], none⟩,
    ⟨(some 71), some (65, false), .not (.t 70), none⟩,
    ⟨(some 72), none, .pick (.t 65) (.c (.bool true)) (.t 71), none⟩] (some [1, 3, 9, 72])) (
  .ite (.t 72) (
    .seq (.reg false [
      ⟨(some 8), none, .mv false (.c (.bool false)), none⟩] (some [8])) (
    .ret)) (
    .skip)))) (
  .skip)))) (
.seq (.reg false [
  ⟨(some 74), none, .ld (some 2) (.t 9), none⟩,
  ⟨(some 75), none, .mv false (.t 1), none⟩,
  ⟨(some 76), none, .call false 26 [(.t 74), (.t 75)], none⟩,
  ⟨(some 73), none, .mv false (.t 76), none⟩,
  ⟨(some 77), none, .ext (.t 73) 0, none⟩,
  ⟨(some 78), none, .ext (.t 73) 1, none⟩,
  ⟨(some 17), none, .mv false (.t 77), none⟩,
  ⟨(some 18), none, .mv false (.t 78), none⟩] (some [1, 3, 9, 17, 18])) (
.seq (.seq (.reg false [
  ⟨(some 79), none, .mv false (.t 18), none⟩,
  ⟨(some 80), none, .not (.t 79), none⟩] (some [1, 3, 9, 17, 80])) (
.ite (.t 80) (
  .seq (.reg false [
    ⟨(some 81), none, .call false 13 [], none⟩,
    ⟨(some 8), none, .mv false (.t 81), none⟩] (some [8])) (
  .ret)) (
  .skip))) (
.seq (.reg false [
  ⟨(some 82), none, .ld (some 2) (.t 9), none⟩,
  ⟨(some 83), none, .mv false (.t 17), none⟩,
  ⟨(some 84), none, .call false 23 [(.t 82), (.t 83)], none⟩,
  ⟨(some 19), none, .mv false (.t 84), none⟩] (some [1, 3, 9, 17, 19])) (
.seq (.reg false [
  ⟨(some 20), none, .mv false (.c (.int .i64 0)), none⟩] (some [1, 3, 9, 17, 19, 20])) (
.seq (.seq (.reg false [
  ⟨(some 85), none, .mv false (.t 19), none⟩,
  ⟨(some 86), none, .len false (.t 85), none⟩,
  ⟨(some 87), none, .mv false (.c (.int .i64 0)), none⟩] (some [1, 3, 9, 17, 19, 20, 85, 86, 87])) (
.blk 0 (
  .loop (
    .seq (.reg false [
      ⟨(some 88), none, .bin .lss .i64 (.t 87) (.t 86), none⟩] (some [1, 3, 9, 17, 19, 20, 85, 86, 87, 88])) (
    .seq (.ite (.t 88) (
      .skip) (
      .exit 0)) (
    .seq (.blk 1 (
      .seq (.reg false [
        ⟨(some 89), none, .mv false (.t 87), none⟩,
        ⟨(some 90), none, .ixs 1 (.t 85) (.t 87), none⟩,
        ⟨(some 91), none, .ld none (.t 90), none⟩,
        ⟨(some 21), none, .mv false (.t 89), none⟩,
        ⟨(some 22), none, .mv false (.t 91), none⟩] (some [1, 3, 9, 17, 19, 20, 21, 22, 85, 86, 87])) (
      .seq (.reg false [
        ⟨(some 92), none, .mv false (.t 22), none⟩,
        ⟨(some 93), none, .mv false (.t 1), none⟩,
        ⟨(some 94), none, .bin .eql .u32 (.t 92) (.t 93), none⟩] (some [1, 3, 9, 17, 19, 20, 21, 85, 86, 87, 94])) (
      .ite (.t 94) (
        .reg false [
          ⟨(some 95), none, .mv false (.t 21), none⟩,
          ⟨(some 20), none, .mv false (.t 95), none⟩] (some [1, 3, 9, 17, 19, 20, 85, 86, 87])) (
        .skip))))) (
    .reg false [
      ⟨(some 96), none, .bin .add .i64 (.t 87) (.c (.int .i64 1)), none⟩,
      ⟨(some 87), none, .mv false (.t 96), none⟩] (some [1, 3, 9, 17, 19, 20, 85, 86, 87])))))))) (
.seq (.reg true [
  ⟨(some 98), none, .ld (some 2) (.t 9), (some [0])⟩,
  ⟨(some 99), none, .mv false (.t 1), none⟩,
  ⟨(some 100), none, .mv false (.t 3), none⟩,
  ⟨(some 101), none, .conv .i64 (.t 100), none⟩,
  ⟨(some 102), none, .mv false (.t 19), none⟩,
  ⟨(some 103), none, .len false (.t 102), (some [0])⟩,
  ⟨(some 104), none, .mx (.t 103) (.c (.int .i64 1)), none⟩,
  ⟨(some 105), none, .bin .rem .i64 (.t 101) (.t 104), none⟩,
  ⟨(some 106), none, .callC 31 [(.t 98), (.t 99), (.t 105)], none⟩,
  ⟨(some 97), none, .mv false (.t 106), none⟩,
  ⟨(some 107), none, .ext (.t 97) 0, none⟩,
  ⟨(some 108), none, .ext (.t 97) 1, none⟩,
  ⟨(some 23), none, .alloc [(.mp [] []), (.mp [] [])], (some [1])⟩,
  ⟨none, none, .st (some 2) (.t 23) (.t 107), none⟩,
  ⟨(some 24), none, .mv false (.t 108), none⟩] (some [1, 9, 17, 19, 20, 23, 24])) (
.seq (.reg false [
  ⟨(some 110), none, .ld (some 2) (.t 23), none⟩,
  ⟨(some 111), none, .mv false (.t 1), none⟩,
  ⟨(some 112), none, .mv false (.t 20), none⟩,
  ⟨(some 113), none, .call false 31 [(.t 110), (.t 111), (.t 112)], none⟩,
  ⟨(some 109), none, .mv false (.t 113), none⟩,
  ⟨(some 114), none, .ext (.t 109) 0, none⟩,
  ⟨(some 115), none, .ext (.t 109) 1, none⟩,
  ⟨(some 25), none, .alloc [(.mp [] []), (.mp [] [])], none⟩,
  ⟨none, none, .st (some 2) (.t 25) (.t 114), none⟩,
  ⟨(some 26), none, .mv false (.t 115), none⟩] (some [1, 9, 17, 19, 24, 25, 26])) (
.seq (.reg false [
  ⟨(some 117), none, .ld (some 2) (.t 9), none⟩,
  ⟨(some 118), none, .mv false (.t 1), none⟩,
  ⟨(some 119), none, .mv false (.t 17), none⟩,
  ⟨(some 120), none, .call false 16 [(.t 117), (.t 118), (.t 119)], none⟩,
  ⟨(some 116), none, .mv false (.t 120), none⟩,
  ⟨(some 121), none, .ext (.t 116) 0, none⟩,
  ⟨(some 122), none, .ext (.t 116) 1, none⟩,
  ⟨(some 27), none, .alloc [(.mp [] []), (.mp [] [])], none⟩,
  ⟨none, none, .st (some 2) (.t 27) (.t 121), none⟩,
  ⟨(some 28), none, .mv false (.t 122), none⟩] (some [1, 9, 19, 24, 25, 26, 27, 28])) (
.seq (.reg false [
  ⟨(some 124), none, .ld (some 2) (.t 9), none⟩,
  ⟨(some 125), none, .mv false (.t 1), none⟩,
  ⟨(some 126), none, .mv false (.t 19), none⟩,
  ⟨(some 127), none, .len false (.t 126), none⟩,
  ⟨(some 128), none, .bin .sub .i64 (.t 127) (.c (.int .i64 1)), none⟩,
  ⟨(some 129), none, .call false 31 [(.t 124), (.t 125), (.t 128)], none⟩,
  ⟨(some 123), none, .mv false (.t 129), none⟩,
  ⟨(some 130), none, .ext (.t 123) 0, none⟩,
  ⟨(some 131), none, .ext (.t 123) 1, none⟩,
  ⟨(some 29), none, .alloc [(.mp [] []), (.mp [] [])], none⟩,
  ⟨none, none, .st (some 2) (.t 29) (.t 130), none⟩,
  ⟨(some 30), none, .mv false (.t 131), none⟩] (some [9, 24, 25, 26, 27, 28, 29, 30])) (
.seq (.reg true [
  ⟨(some 132), none, .call false 13 [], none⟩,
  ⟨(some 133), none, .mv false (.t 132), none⟩,
  ⟨(some 134), some (133, true), .mv false (.t 24), none⟩,
  ⟨(some 135), some (133, true), .bin .eql .i64 (.t 134) (.c (.int .i64 0)), none⟩,
  ⟨(some 136), none, .pick (.t 133) (.t 135) (.c (.bool false)), none⟩,
  ⟨(some 137), none, .mv false (.t 136), none⟩,
  ⟨(some 138), some (137, true), .mv false (.t 26), none⟩,
  ⟨(some 139), some (137, true), .bin .eql .i64 (.t 138) (.c (.int .i64 0)), none⟩,
  ⟨(some 140), none, .pick (.t 137) (.t 139) (.c (.bool false)), none⟩,
  ⟨(some 141), none, .mv false (.t 140), none⟩,
  ⟨(some 142), some (141, true), .mv false (.t 28), none⟩,
  ⟨(some 143), some (141, true), .bin .eql .i64 (.t 142) (.c (.int .i64 0)), none⟩,
  ⟨(some 144), none, .pick (.t 141) (.t 143) (.c (.bool false)), none⟩,
  ⟨(some 145), none, .mv false (.t 144), none⟩,
  ⟨(some 146), some (145, true), .mv false (.t 30), none⟩,
  ⟨(some 147), some (145, true), .bin .eql .i64 (.t 146) (.c (.int .i64 0)), none⟩,
  ⟨(some 148), none, .pick (.t 145) (.t 147) (.c (.bool false)), none⟩,
  ⟨(some 149), none, .mv false (.t 148), none⟩,
  ⟨(some 150), some (149, true), .ld (some 2) (.t 25), none⟩,
  ⟨(some 151), some (149, true), .call false 14 [(.t 150), (.c (.int .u32 1))], none⟩,
  ⟨(some 152), some (149, true), .ld (some 2) (.t 9), none⟩,
  ⟨(some 153), some (149, true), .call false 14 [(.t 152), (.c (.int .u32 1))], none⟩,
  ⟨(some 154), some (149, true), .call false 17 [(.t 151), (.t 153)], none⟩,
  ⟨(some 155), none, .pick (.t 149) (.t 154) (.c (.bool false)), none⟩,
  ⟨(some 156), none, .mv false (.t 155), none⟩,
  ⟨(some 157), some (156, true), .ld (some 2) (.t 27), none⟩,
  ⟨(some 158), some (156, true), .call false 14 [(.t 157), (.c (.int .u32 1))], none⟩,
  ⟨(some 159), some (156, true), .ld (some 2) (.t 29), none⟩,
  ⟨(some 160), some (156, true), .call false 14 [(.t 159), (.c (.int .u32 1))], none⟩,
  ⟨(some 161), some (156, true), .call false 17 [(.t 158), (.t 160)], none⟩,
  ⟨(some 162), none, .pick (.t 156) (.t 161) (.c (.bool false)), none⟩,
  ⟨(some 8), none, .mv false (.t 162), none⟩] (some [8])) (
.ret))))))))))))))
set_option maxRecDepth 1000000 in
theorem comp_law28_TreeBack : (Try.f9.body.bind fun code => compC Try.prog Try.f9.ntmps code c_law28_TreeBack) = some c_law28_TreeBack.bare := by kernel_rfl
def r_law28_TreeBack : List R := [.t 8]
theorem spo_law28_TreeBack {ds : List D} {d : D} (hn : Nat.ble ds.length 163 = true) (h : run TSpC gtab 0 c_law28_TreeBack (retK r_law28_TreeBack (· = d)) ⟨env0 0 ds, []⟩) : TSp 9 ds d := Sp_of mixed c_law28_TreeBack r_law28_TreeBack (fn := Try.f9) (by kernel_rfl) (by kernel_rfl) comp_law28_TreeBack (by kernel_rfl) hn h
theorem spm_law28_TreeBack {ds : List D} {d : D} {bx bx' : List Ent} (hn : Nat.ble ds.length 163 = true) (h : run TSpC gtab (sizeE bx) c_law28_TreeBack (retG r_law28_TreeBack (fun d1 bx1 => Rt (sizeE bx) bx1 d1 d bx')) ⟨env0 0 ds, bx⟩) : TSpM 9 ds bx d bx' := SpM_of mixed c_law28_TreeBack r_law28_TreeBack (fn := Try.f9) (by kernel_rfl) (by kernel_rfl) comp_law28_TreeBack (by kernel_rfl) hn h
end Go.AM
