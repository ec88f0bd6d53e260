import Derived.Test.YtoaialdcgmkbgaaGreatRCode
import Derived.Lib.Small
import Derived.Lib.Walk
import Derived.Sort.Grow
import Derived.Deep.RegionWith
import Derived.StillTailTactics
import Derived.Lib.Hide

set_option linter.all false
namespace Go.Proofs
open Go.Shelf Go.Lib Go.Sort
theorem Zz.isNaN (x : Int) (w : World) : Calls Tryz.prog 124 #[.int .i64 x] w fun e w' => e = .returned (.bool false) /\ w' = w := by
 go_enter Tryz.func124, Tryz.ntmps124
 go_wp2
 go_ret
 exact ⟨by simp, rfl⟩
theorem Zz.compare (x y : Int) (w : World) : Calls Tryz.prog 62 #[.int .i64 x, .int .i64 y] w fun e w' => e = .returned (.int .i64 (Lib.compareInt x y)) /\ w' = w := by
 go_enter Tryz.func62, Tryz.ntmps62
 go_wp2_with (go_at_call 124; refine (Zz.isNaN _ _).mono ?_; rintro e w' ⟨rfl, hw⟩; rw [hw])
 all_goals (go_ret; refine ⟨?_, rfl⟩; unfold Lib.compareInt; (repeat' split) <;> first | rfl | (exfalso; omega))
def Zz.orI (a b : Int) : Int := if a ≠ 0 then a else b
theorem Zz.or (a b : Int) (blk : Nat) (w : World) (h0 : w.cell? ⟨blk, 0, none⟩ = some (.int .i64 a)) (h1 : w.cell? ⟨blk, 1, none⟩ = some (.int .i64 b)) :
  Calls Tryz.prog 61 #[.slice (some ⟨blk, 0, none⟩) 2 2] w fun e w' => e = .returned (.int .i64 (Zz.orI a b)) /\ w' = w := by
 go_enter Tryz.func61, Tryz.ntmps61
 go_wp2
 go_loop [8] (fun i => i = .int .i64 0 \/ (i = .int .i64 1 /\ a = 0) \/ (i = .int .i64 2 /\ a = 0 /\ b = 0)) (fun i => 2 - (intOf i).toNat)
 case atStart => exact .inl rfl
 case round =>
  rcases hrel with rfl | ⟨rfl, ha⟩ | ⟨rfl, ha, hb⟩
  ·clear h1
   by_cases ha : a = 0
   ·subst ha
    go_wp2
    go_round
    case rel => exact .inr (.inl ⟨rfl, trivial⟩)
    case measure => simp [intOf]
   ·go_wp2
    go_ret
    exact ⟨by simp [Zz.orI, ha], rfl⟩
  ·subst ha
   clear h0
   by_cases hb : b = 0
   ·subst hb
    go_wp2
    go_round
    case rel => exact .inr (.inr ⟨rfl, trivial, trivial⟩)
    case measure => simp [intOf]
   ·go_wp2
    go_ret
    exact ⟨by simp [Zz.orI], rfl⟩
  ·subst ha hb
   clear h0 h1
   go_wp2
   go_ret
   exact ⟨by simp [Zz.orI], rfl⟩
def Zz.enc (r : Int × Int × Int × Int) : List Value := [.int .i64 r.1, .int .i64 r.2.1, .int .i64 r.2.2.1, .int .i64 r.2.2.2]
def Zz.cmp1 (x y : Int × Int × Int × Int) : Int := Zz.orI (Lib.compareInt x.2.1 y.2.1) (Lib.compareInt x.1 y.1)
def Zz.cmp3 (x y : Int × Int × Int × Int) : Int := Lib.compareInt x.1 y.1
theorem Zz.closure3 (x y : Int × Int × Int × Int) (W : World) : Calls Tryz.prog 66 #[.agg (Zz.enc x).toArray, .agg (Zz.enc y).toArray] W fun e w' => e = .returned (.int .i64 (Zz.cmp3 x y)) /\ ∃ q os', w' = grow (W.drewN q) os' := by
 unfold Zz.enc Zz.cmp3
 have hcon := fun W' => Zz.compare x.1 y.1 W'
 generalize Lib.compareInt x.1 y.1 = r at hcon |-
 go_enter Tryz.func66, Tryz.ntmps66
 go_wp2_with (go_at_call 62; refine (hcon _).mono ?_; rintro e w' ⟨rfl, rfl⟩)
 go_ret
 exact ⟨rfl, 0, _, by rw [alloc_eq_grow, alloc_eq_grow, grow_grow]; rfl⟩
set_option maxRecDepth 100000 in
theorem Zz.closure1 (x y : Int × Int × Int × Int) (W : World) : Calls Tryz.prog 60 #[.agg (Zz.enc x).toArray, .agg (Zz.enc y).toArray] W fun e w' => e = .returned (.int .i64 (Zz.cmp1 x y)) /\ ∃ q os', w' = grow (W.drewN q) os' := by
 unfold Zz.enc Zz.cmp1
 obtain ⟨x0, x1, x2, x3⟩ := x
 obtain ⟨y0, y1, y2, y3⟩ := y
 dsimp only
 have hc1 := fun W' => Zz.compare x1 y1 W'
 have hc2 := fun W' => Zz.compare x0 y0 W'
 generalize Lib.compareInt x0 y0 = r2 at hc2 |-
 generalize Lib.compareInt x1 y1 = r1 at hc1 |-
 have hor := fun blk W' h0 h1 => Zz.or r1 r2 blk W' h0 h1
 generalize Zz.orI r1 r2 = r3 at hor |-
 go_enter Tryz.func60, Tryz.ntmps60
 go_wp2
 generalize hW1 : (W.alloc _).alloc _ = W1
 have hb1 : W1.cell? ⟨W.heap.size, 1, none⟩ = some (.int .i64 x1) := by rw [<- hW1]; simp
 have hb2 : W1.cell? ⟨W.heap.size + 1, 1, none⟩ = some (.int .i64 y1) := by rw [<- hW1]; simp
 have hb3 : W1.cell? ⟨W.heap.size, 0, none⟩ = some (.int .i64 x0) := by rw [<- hW1]; simp
 have hb4 : W1.cell? ⟨W.heap.size + 1, 0, none⟩ = some (.int .i64 y0) := by rw [<- hW1]; simp
 have HW := Lib.hid hW1
 clear hW1
 refine wp_region_still_tail 10 (by kernel_rfl) (by kernel_rfl) ?_
 simp only [List.take_succ_cons, List.take_zero, List.drop_succ_cons, List.drop_zero]
 still_step
 still_step
 still_step
 still_step
 still_call (hc1 _)
 still_step
 still_step
 still_step
 still_step
 still_call (hc2 _)
 refine wpStill_nil ?_
 change wpList _ _ _ _ _ W1.drew
 clear hb1 hb2 hb3 hb4 hc1 hc2
 go_wp2_with (go_at_call 61; refine (hor _ _ (by simp) (by simp)).mono ?_; rintro e w' ⟨rfl, rfl⟩)
 go_ret
 refine ⟨rfl, 1, ?_⟩
 have e := HW.out
 subst e
 exact ⟨_, by simp only [alloc_eq_grow, grow_grow]; rfl⟩
end Go.Proofs
