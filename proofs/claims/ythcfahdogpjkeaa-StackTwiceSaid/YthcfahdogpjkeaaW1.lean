
/- The library's DeleteFunc, at rows of one's own. -/
import Derived.Test.YthcfahdogpjkeaaV4
import Derived.Shelf.SlicesE.DeleteFunc
set_option linter.all false
namespace Go.Proofs
open Go.Shelf Go.RowKit Go.Lib Go.Sort
def dfRen : Ren := ⟨fun | 10 => 28 | 6 => 55 | n => n, fun | 22 => 69 | 23 => 37 | 25 => 73 | n => n, fun n => n⟩
theorem df_lay : SlLaysH.n10 Try.prog dfRen := {
  mixed := by kernel_rfl
  f6 := ⟨Try.f55.name, by kernel_rfl, Try.func55.trans (congrArg some (by kernel_rfl))⟩
  f10 := ⟨Try.f28.name, by kernel_rfl, Try.func28.trans (congrArg some (by kernel_rfl))⟩
  t0 := Try.underlying0
  a0 := Try.isAgg0
  z0 := Try.sizeOf0
  v0 := Try.zeroValue0
  t3 := Try.underlying3
  a3 := Try.isAgg3
  z3 := Try.sizeOf3
  v3 := Try.zeroValue3
  t4 := Try.underlying4
  a4 := Try.isAgg4
  z4 := Try.sizeOf4
  v4 := Try.zeroValue4
  t22 := Try.underlying69
  a22 := Try.isAgg69
  z22 := Try.sizeOf69
  v22 := Try.zeroValue69
  a23 := Try.isAgg37
  z23 := Try.sizeOf37
  t25 := Try.underlying73
  a25 := Try.isAgg73
  z25 := Try.sizeOf73
  v25 := Try.zeroValue73
}
end Go.Proofs
namespace Go.Proofs
open Go.RowKit
set_option maxHeartbeats 1000000 in
set_option maxRecDepth 100000 in
theorem take1_calls (x id : Int) (c : Nat) (W : World) (h : W.cell? ⟨c, 0, none⟩ = some (.int .u32 id)) : Calls Try.prog 69 (#[.int .u32 x] ++ #[.pointer (some ⟨c, 0, none⟩)]) W fun e w' => e = .returned (.bool (decide (x = id))) ∧ ∃ q, w' = W.drewN q := by
  go_enter Try.func69, Try.ntmps69
  go_wp2
  go_ret
  exact ⟨by first | rfl | simp [Op.intCmp], 0, rfl⟩
end Go.Proofs
namespace Go.AM
open Go Go.Proofs Go.RowKit Go.Lib Go.Sort

theorem iL_rep {K : Kn} {pl : Pl} : ∀ {l : List Int} {vs : List Value}, RepL K pl (iL l) vs → vs = l.map fun n => Value.int .u32 n
  | [], vs, h => by simpa [iL, RepL] using h
  | x :: l, vs, h => by
    simp only [iL, List.map_cons, RepL, Rep] at h
    obtain ⟨v, r, rfl, rfl, h⟩ := h
    rw [iL_rep (l := l) h]; rfl
theorem rep_iL {K : Kn} {pl : Pl} : ∀ {l : List Int}, RepL K pl (iL l) (l.map fun n => Value.int .u32 n)
  | [] => by simp [iL, RepL]
  | x :: l => by
    simp only [iL, List.map_cons, RepL, Rep]
    exact ⟨_, _, rfl, rfl, rep_iL (l := l)⟩
theorem flat_ints (l : List Int) : flat (l.map fun n => Value.int .u32 n) = l.map fun n => Value.int .u32 n := by
  induction l with
  | nil => rfl
  | cons x l ih =>
    simp only [flat, List.map_cons, List.flatMap_cons] at ih ⊢
    rw [ih]; rfl
theorem sized_ints (l : List Int) : sized 1 (l.map fun n => Value.int .u32 n) := fun v hv => by
  obtain ⟨n, _, rfl⟩ := List.mem_map.1 hv
  exact ⟨rfl, fun c hc => by simp [Value.cells] at hc; subst hc; rfl⟩

/-- One's own rows hold other ones, in their block or in a new one. -/
theorem own_set {gt : Nat → Option (List D)} {K : Kn} {pl : Pl} {bx : List Ent} {w w' : World} {k ver : Nat} {e : TypeId} {l l' : List Int} {g' cap : Nat} {cur' : Array Value} (hmod : ∀ b o, K b = some o → w.heap[b]? = some o) (hglob : GlobOk gt K) (htab : Tab K pl w bx)
    (hk : bx[k]? = some (.arr e 1 ver (iL l))) {v : Value} (hv : pl k ver = some v) (hgg : v.ownBlock = some g' ∨ w.heap.size ≤ g') (hg' : w'.heap[g']? = some (.cells cur' e (0, 0))) (hsz : cur'.size = cap) (hcap : cap ≤ maxLen) (hn' : l'.length ≤ cap)
    (ht : cur'.toList.take l'.length = l'.map fun n => Value.int .u32 n) (hc : Chg (fun b => v.ownBlock = some b) w w') :
    PLe pl (updPl pl k (ver + 1) (.slice (some ⟨g', 0, none⟩) l'.length cap)) ∧ Inv ⟨Own pl bx, w, K, bx.length, pl, gt⟩ K (updPl pl k (ver + 1) (.slice (some ⟨g', 0, none⟩) l'.length cap)) (bx.set k (.arr e 1 (ver + 1) (iL l'))) w' := by
  obtain ⟨v0, vs, h1, h2, h3, h4, h5, h6, h7⟩ := htab.ok k _ hk
  rw [hv] at h1
  injection h1 with h1
  subst h1
  have hI := Inv.start (gt := gt) hmod hglob htab
  have hp : PLe pl (updPl pl k (ver + 1) (.slice (some ⟨g', 0, none⟩) l'.length cap)) := updPl_le (h6 _ (by omega))
  have hblk : entBlk pl k (.arr e 1 ver (iL l)) = v.ownBlock := by
    rcases h2.2 with ⟨rfl, _⟩ | ⟨g, cap, cur, rfl, _⟩ <;> simp [entBlk, hv, blkV, Value.ownBlock]
  refine ⟨hp, hI.upd hk hp (fun k' ver' hk' => updPl_ne (.inl hk')) (fun b hb => ?_) ⟨hc.os, hc.tape, hc.output, hc.size, fun b hb hn => hc.block b hb fun e' => hn (by rw [hblk]; exact e')⟩ ?_⟩
  · simp [entBlk, updPl_self, blkV] at hb
    subst hb
    rcases hgg with h | h
    · exact .inl (by rw [hblk]; exact h)
    · exact .inr h
  · refine ⟨_, l'.map fun n => Value.int .u32 n, updPl_self _ _ _ _, ?_, rep_iL, sized_ints l', fun b hb => ?_, fun ver' hlt => ?_, nofun⟩
    · refine ⟨by rw [flat_ints]; simp [iL], .inr ⟨g', cap, cur', by simp [iL], Nat.zero_le _, hg', by simpa [iL] using hn', hcap, by rw [hsz]; omega, ?_⟩⟩
      rw [flat_ints, iL_len, Nat.mul_one]; exact ht
    · simp [Value.ownBlock] at hb
      subst hb
      rcases hgg with h | h
      · exact h5 _ h
      · cases hK : K g' with
        | none => rfl
        | some o =>
          have := (Array.getElem?_eq_some_iff.1 (hmod _ _ hK)).1
          omega
    · rw [updPl_ne (.inr (by omega))]
      exact h6 _ (by omega)
end Go.AM

