
/- Chapter 29: DeleteFunc, by Restack's own function. -/
import Derived.Test.YthcfahdogpjkeaaW2
set_option linter.all false
namespace Go.Proofs
open Go.RowKit
set_option maxHeartbeats 1000000 in
set_option maxRecDepth 100000 in
theorem res1_calls (x id : Int) (c : Nat) (W : World) (h : W.cell? ⟨c, 0, none⟩ = some (.int .u32 id)) : Calls Try.prog 30 (#[.int .u32 x] ++ #[.pointer (some ⟨c, 0, none⟩)]) W fun e w' => e = .returned (.bool (decide (x = id))) ∧ ∃ q, w' = W.drewN q := by
  go_enter Try.func30, Try.ntmps30
  go_wp2
  go_ret
  exact ⟨by first | rfl | simp [Op.intCmp], 0, rfl⟩
end Go.Proofs
namespace Go.AM
open Go Go.Proofs Go.RowKit Go.Lib Go.Sort
theorem sm_DeleteFunc29 {l : List Int} (hne : l ≠ []) (hl : l.length < 1000000) {ver : Nat} {id : Int} :
    TSpM 28 [.own 0 ver, .fn 30 [.box 1 0]] [.arr 37 1 ver (iL l), .cells [.int .u32 id]] (.own 0 (ver + 1)) [.arr 37 1 (ver + 1) (iL (l.filter fun x => !decide (x = id))), .cells [.int .u32 id]] := by
  refine ⟨⟨_, Try.func28, by kernel_rfl, by kernel_rfl⟩, fun K pl w vs hmod hglob htab hrep => ?_⟩
  obtain ⟨vs⟩ := vs
  simp only [RepL, Rep] at hrep
  obtain ⟨v, _, rfl, ⟨hv, _⟩, f, _, rfl, ⟨cs, rfl, hcs⟩, rfl⟩ := hrep
  obtain ⟨p, _, rfl, ⟨c, hc1, rfl⟩, rfl⟩ := hcs
  obtain ⟨v0, vs0, h1, h2, h3, h4, h5, h6, h7⟩ := htab.ok 0 _ rfl
  rw [hv] at h1
  injection h1 with h1
  subst h1
  obtain ⟨b, T, cs1, g1, g2, g3, g4, g5⟩ := htab.ok 1 _ rfl
  rw [hc1] at g1
  injection g1 with g1
  injection g1 with g1
  injection g1 with g1
  injection g1 with g1
  subst g1
  have e0 := iL_rep h3
  subst e0
  rw [flat_ints] at h2
  have hll : (iL l).length = l.length := iL_len l
  rw [hll] at h2
  obtain ⟨q1, q2⟩ := h2
  rcases q2 with ⟨_, q2⟩ | ⟨g, cap, cur, rfl, _, q4, q5, q6, q7, q8⟩
  · exact absurd (List.eq_nil_of_length_eq_zero q2) hne
  rw [Nat.mul_one] at q7 q8
  have hcell : w.cell? ⟨c, 0, none⟩ = some (.int .u32 id) := by
    rw [cell_of g3]
    simp only [RepL, Rep] at g4
    obtain ⟨x, r, rfl, rfl, rfl⟩ := g4
    rfl
  have hcg : c ≠ g := fun e => by
    refine htab.sep 0 1 _ _ g (by decide) rfl rfl ?_ ?_
    · simp [entBlk, hv, blkV]
    · rw [entBlk_cells hc1, e]
  have hclt : c < w.heap.size := (Array.getElem?_eq_some_iff.1 g3).1
  have hcur : ∀ j, j < l.length → cur[j]? = some (Value.int .u32 l[j]!) := fun j hj => by
    have := congrArg (fun x => x[j]?) q8
    rw [List.getElem?_take_of_lt hj] at this
    rw [← Array.getElem?_toList, this]
    simp [List.getElem?_map, getElem!_pos l j hj, List.getElem?_eq_getElem hj]
  have hH : Holds (Value.int .u32) w g 0 l.toArray := fun j hj => by
    have hj' : j < l.length := by simpa using hj
    refine ⟨?_, by rw [Nat.zero_add]; exact frozen_of q4 j⟩
    rw [Nat.zero_add, cell_of q4, hcur j hj']
    simp [getElem!_pos, hj']
  have hpred : ∀ (W : World) (x : Int), W.cell? ⟨c, 0, none⟩ = some (.int .u32 id) → FnGives Try.prog 30 #[.pointer (some ⟨c, 0, none⟩)] #[Value.int .u32 x] (.bool (decide (x = id))) W := fun W x hW => res1_calls x id c W hW
  have hcellW : ∀ W : World, W.heap[c]? = w.heap[c]? → W.cell? ⟨c, 0, none⟩ = some (.int .u32 id) := fun W hW => by
    rw [← hcell]
    unfold World.cell?
    rw [hW]
  have hgot := AnyE.slices_DeleteFunc df_lay (Value.int .u32) enc1 (fun x : Int => decide (x = id)) 30 #[.pointer (some ⟨c, 0, none⟩)] (enters_of Try.func30 (by kernel_rfl) (Option.some_get (x := Try.f30.body) (by kernel_rfl)).symm) 0 (fun w => by
      exact Try.zeroValue37 w) g 0 cap l.toArray w
    (fun W x hb => hpred W x (hcellW W (hb.block c hclt)))
    (fun n os dk x hs => hpred _ x (hcellW _ (by
      unfold sortWorld
      rw [Sort.heap_grow_old _ os (by rw [size_putRow]; exact hclt), putRow_heap _ _ _ _ _ hcg]; rfl)))
    hH (by simp; unfold maxLen at q6; omega) (by simpa using q5)
  simp only [List.size_toArray] at hgot
  refine hgot.mono ?_
  rintro e w' ⟨rfl, q, rfl⟩
  have hfl : (l.filter fun x => !decide (x = id)).length ≤ l.length := List.length_filter_le _ _
  generalize hL : (l.filter fun x => !decide (x = id)) = l' at *
  have hds : (l' ++ List.replicate (l.length - l'.length) (0 : Int)).toArray.size = l.length := by simp; omega
  have hset := own_set (gt := gtab) hmod hglob htab (k := 0) rfl hv (.inl rfl) (w' := putRow (Value.int .u32) (Sort.ahead w q) g 0 (l' ++ List.replicate (l.length - l'.length) 0).toArray) (l' := l')
    (cur' := putCells (Value.int .u32) 0 (l' ++ List.replicate (l.length - l'.length) 0).toArray cur) (cap := cap) (putRow_blk (w := Sort.ahead w q) q4) (by unfold putCells; simp [q7]) q6 (by omega)
    (by
      refine List.ext_getElem? fun j => ?_
      by_cases hj : j < l'.length
      · rw [List.getElem?_take_of_lt hj]
        have hjc : j < cur.size := by omega
        unfold putCells
        rw [Array.getElem?_toList, Array.getElem?_mapIdx, Array.getElem?_eq_getElem hjc]
        have : j < (l' ++ List.replicate (l.length - l'.length) (0 : Int)).length := by simp; omega
        have hg2 : (l' ++ List.replicate (l.length - l'.length) (0 : Int)).toArray[j]! = l'[j]! := by
          rw [getElem!_pos _ j (by simpa using this), getElem!_pos l' j hj]
          simp [List.getElem_append_left, hj]
        simp only [Option.map_some, Nat.sub_zero, Nat.zero_le, Nat.zero_add, List.size_toArray, this, and_self, if_true, hg2]
        rw [List.getElem?_map, List.getElem?_eq_getElem hj, getElem!_pos l' j hj]; rfl
      · rw [List.getElem?_eq_none (by simp; omega), List.getElem?_eq_none (by simp; omega)])
    ⟨rfl, rfl, rfl, by simp [size_putRow, Sort.ahead], fun b hb hn => by rw [putRow_heap _ _ _ _ _ (fun e => hn (by rw [e]; rfl))]; rfl⟩
  refine ⟨_, K, _, rfl, hset.2, ?_⟩
  simp only [Rep]
  exact ⟨updPl_self _ _ _ _, _, _, _, rfl⟩
end Go.AM
