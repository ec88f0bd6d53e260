import Derived.Test.YtoaialdcgmkbgaaGreatRY1
import Derived.Sort.Grow
import Derived.Sort.Row

set_option linter.all false
namespace Go.AM
open Go Go.Proofs Go.RowKit Go.Lib Go.Sort
theorem kk0 {w : World} {b : Nat} {cs : Array Value} {T : TypeId} {fz : Nat × Nat} (h : w.heap[b]? = some (.cells cs T fz)) (i : Nat) : w.cell? ⟨b, i, none⟩ = cs[i]? := by
 unfold World.cell?
 simp [h]
theorem jD5 {w : World} {b : Nat} {cs : Array Value} {T : TypeId} (h : w.heap[b]? = some (.cells cs T (0, 0))) (i : Nat) : w.frozen? ⟨b, i, none⟩ = false := by
 unfold World.frozen?
 simp [h]
theorem Zr {α : Type} [Inhabited α] (enc : α -> Value) (w : World) (blk off : Nat) (d : Array α) (c : Nat) (h : c ≠ blk) : (putRow enc w blk off d).heap[c]? = w.heap[c]? := by
 unfold putRow mapBlock
 simp [Array.getElem?_modify, Ne.symm h]
theorem Xf {α : Type} [Inhabited α] {enc : α -> Value} {w : World} {blk off : Nat} {d : Array α} {cs : Array Value} {T : TypeId} {fz : Nat × Nat} (h : w.heap[blk]? = some (.cells cs T fz)) : (putRow enc w blk off d).heap[blk]? = some (.cells (putCells enc off d cs) T fz) := by
 unfold putRow mapBlock
 simp [Array.getElem?_modify, h, onCells]
theorem JH {α : Type} [Inhabited α] (enc : α -> Value) (d : Array α) (c : Array Value) (h : d.size <= c.size) : (putCells enc 0 d c).toList.take d.size = d.toList.map enc := by
 refine List.ext_getElem? fun j => ?_
 by_cases hj : j < d.size
 ·rw [List.getElem?_take_of_lt hj]
  have hjc : j < c.size := by omega
  unfold putCells
  rw [Array.getElem?_toList, Array.getElem?_mapIdx, Array.getElem?_eq_getElem hjc]
  simp [hj]
 ·rw [List.getElem?_eq_none (by simp; omega), List.getElem?_eq_none (by simp; omega)]
theorem JI {α : Type} [Inhabited α] (enc : α -> Value) (d : Array α) (c : Array Value) : (putCells enc 0 d c).size = c.size := by simp [putCells]
theorem jS4 {gt : Nat -> Option (List D)} {K : Kn} {pl : Pl} {bx : List Ent} {w w' : World} {k ver sz : Nat} {e : TypeId} {xs xs' : List D} {vs' : List Value} {g cap : Nat} {cur' : Array Value} (hmod : ∀ b o, K b = some o -> w.heap[b]? = some o) (hglob : GlobOk gt K) (htab : Tab K pl w bx)
  (hk : bx[k]? = some (.arr e sz ver xs)) (hv : pl k ver = some (.slice (some ⟨g, 0, none⟩) xs.length cap)) (hne : xs ≠ []) (hg' : w'.heap[g]? = some (.cells cur' e (0, 0))) (hsz : cur'.size = cap * sz) (hcap : cap <= maxLen) (hn : xs.length <= cap) (hlen : xs'.length = xs.length)
  (hrep : RepL K vK xs' vs') (hsd : sized sz vs') (hfl : (qa vs').length = xs'.length * sz) (ht : cur'.toList.take (xs'.length * sz) = qa vs') (hc : Chg (fun b => b = g) w w') :
  Inv ⟨Own pl bx, w, K, bx.length, pl, gt⟩ K pl (bx.set k (.arr e sz ver xs')) w' := by
 obtain ⟨v0, vs, h1, h2, h3, h4, h5, h6, h7⟩ := htab.ok k _ hk
 rw [hv] at h1
 injection h1 with h1
 subst h1
 have hI := Inv.start (gt := gt) hmod hglob htab
 have hblk : jW pl k (.arr e sz ver xs) = some g := by simp [jW, hv, vj]
 refine hI.upd hk (PLe.refl _) (fun _ _ _ => rfl) (fun b hb => ?_) ⟨hc.os, hc.tape, hc.output, hc.size, fun b hb hn => hc.block b hb fun e' => hn (by rw [hblk, e'])⟩ ?_
 ·simp [jW, hv, vj] at hb
  subst hb
  exact .inl hblk
 ·refine ⟨_, vs', hv, ⟨hfl, .inr ⟨g, cap, cur', by rw [hlen], Nat.zero_le _, hg', by omega, hcap, hsz, ht⟩⟩, hrep, hsd, h5, h6, fun _ hx => absurd hx fun hx => hne (by cases xs with | nil => rfl | cons a r => rw [hx] at hlen; simp at hlen)⟩
theorem kH5 {gt : Nat -> Option (List D)} {K : Kn} {pl : Pl} {bx : List Ent} {w w' : World} {k ver sz : Nat} {e : TypeId} {xs xs' : List D} {vs' : List Value} {g cap : Nat} {cur' : Array Value} (hmod : ∀ b o, K b = some o -> w.heap[b]? = some o) (hglob : GlobOk gt K) (htab : Tab K pl w bx)
  (hk : bx[k]? = some (.arr e sz ver xs)) (hv : pl k ver = some (.slice (some ⟨g, 0, none⟩) xs.length cap)) (hg' : w'.heap[g]? = some (.cells cur' e (0, 0))) (hsz : cur'.size = cap * sz) (hcap : cap <= maxLen) (hn : xs'.length <= cap)
  (hrep : RepL K vK xs' vs') (hsd : sized sz vs') (hfl : (qa vs').length = xs'.length * sz) (ht : cur'.toList.take (xs'.length * sz) = qa vs') (hc : Chg (fun b => b = g) w w') :
  PLe pl (qi pl k (ver + 1) (.slice (some ⟨g, 0, none⟩) xs'.length cap)) /\ Inv ⟨Own pl bx, w, K, bx.length, pl, gt⟩ K (qi pl k (ver + 1) (.slice (some ⟨g, 0, none⟩) xs'.length cap)) (bx.set k (.arr e sz (ver + 1) xs')) w' := by
 obtain ⟨v0, vs, h1, h2, h3, h4, h5, h6, h7⟩ := htab.ok k _ hk
 rw [hv] at h1
 injection h1 with h1
 subst h1
 have hI := Inv.start (gt := gt) hmod hglob htab
 have hp : PLe pl (qi pl k (ver + 1) (.slice (some ⟨g, 0, none⟩) xs'.length cap)) := zX (h6 _ (by omega))
 have hblk : jW pl k (.arr e sz ver xs) = some g := by simp [jW, hv, vj]
 refine ⟨hp, hI.upd hk hp (fun k' ver' hk' => qb (.inl hk')) (fun b hb => ?_) ⟨hc.os, hc.tape, hc.output, hc.size, fun b hb hn => hc.block b hb fun e' => hn (by rw [hblk, e'])⟩ ?_⟩
 ·simp [jW, jY, vj] at hb
  subst hb
  exact .inl hblk
 ·refine ⟨_, vs', jY _ _ _ _, ⟨hfl, .inr ⟨g, cap, cur', rfl, Nat.zero_le _, hg', hn, hcap, hsz, ht⟩⟩, hrep, hsd, h5, fun ver' hlt => ?_, nofun⟩
  rw [qb (.inr (by omega))]
  exact h6 _ (by omega)
theorem kw0 {gt : Nat -> Option (List D)} {K : Kn} {pl : Pl} {bx : List Ent} {w : World} {k ver sz : Nat} {e : TypeId} {v : Value} (hmod : ∀ b o, K b = some o -> w.heap[b]? = some o) (hglob : GlobOk gt K) (htab : Tab K pl w bx)
  (hk : bx[k]? = some (.arr e sz ver [])) (hv : pl k ver = some v) :
  PLe pl (qi pl k (ver + 1) v) /\ Inv ⟨Own pl bx, w, K, bx.length, pl, gt⟩ K (qi pl k (ver + 1) v) (bx.set k (.arr e sz (ver + 1) [])) w := by
 obtain ⟨v0, vs, h1, h2, h3, h4, h5, h6, h7⟩ := htab.ok k _ hk
 rw [hv] at h1
 injection h1 with h1
 subst h1
 have hI := Inv.start (gt := gt) hmod hglob htab
 have hp : PLe pl (qi pl k (ver + 1) v) := zX (h6 _ (by omega))
 refine ⟨hp, hI.upd hk hp (fun k' ver' hk' => qb (.inl hk')) (fun b hb => ?_) (Chg.refl _ _) ?_⟩
 ·refine .inl ?_
  simp only [jW, jY, hv] at hb |-
  exact hb
 ·refine ⟨_, vs, jY _ _ _ _, h2, h3, h4, h5, fun ver' hlt => ?_, nofun⟩
  rw [qb (.inr (by omega))]
  exact h6 _ (by omega)
def iI (l : List Int) : List D := l.map fun n => .int .i64 n
theorem zI (l : List Int) : (iI l).length = l.length := by simp [iI]
theorem kz2 {K : Kn} {pl : Pl} : ∀ {l : List Int} {vs : List Value}, RepL K pl (iI l) vs -> vs = l.map fun n => Value.int .i64 n
 | [], vs, h => by simpa [iI, RepL] using h
 | x :: l, vs, h => by
   simp only [iI, List.map_cons, RepL, Rep] at h
   obtain ⟨v, r, rfl, rfl, h⟩ := h
   rw [kz2 (l := l) h]; rfl
theorem ka7 {K : Kn} {pl : Pl} : ∀ {l : List Int}, RepL K pl (iI l) (l.map fun n => Value.int .i64 n)
 | [] => by simp [iI, RepL]
 | x :: l => by
   simp only [iI, List.map_cons, RepL, Rep]
   exact ⟨_, _, rfl, rfl, ka7 (l := l)⟩
theorem YL (l : List Int) : qa (l.map fun n => Value.int .i64 n) = l.map fun n => Value.int .i64 n := by
 induction l with
 | nil => rfl
 | cons x l ih =>
   simp only [qa, List.map_cons, List.flatMap_cons] at ih |-
   rw [ih]; rfl
theorem jQ2 (l : List Int) : sized 1 (l.map fun n => Value.int .i64 n) := fun v hv => by
 obtain ⟨n, _, rfl⟩ := List.mem_map.1 hv
 exact ⟨rfl, fun c hc => by simp [Value.cells] at hc; subst hc; rfl⟩
theorem jU7 {K : Kn} {pl : Pl} {w : World} {bx : List Ent} {k ver : Nat} {e : TypeId} {l : List Int} (htab : Tab K pl w bx) (hk : bx[k]? = some (.arr e 1 ver (iI l))) (hne : l ≠ []) :
  ∃ g cap cur, pl k ver = some (.slice (some ⟨g, 0, none⟩) l.length cap) /\ w.heap[g]? = some (.cells cur e (0, 0)) /\ g < w.heap.size /\ l.length <= cap /\ cap <= maxLen /\ cur.size = cap /\ Holds (Value.int .i64) w g 0 l.toArray := by
 obtain ⟨v0, vs, h1, h2, h3, h4, h5, h6, h7⟩ := htab.ok k _ hk
 have e0 := kz2 h3
 subst e0
 rw [YL, zI] at h2
 obtain ⟨q1, q2⟩ := h2
 rcases q2 with ⟨_, q2⟩ | ⟨g, cap, cur, rfl, _, q4, q5, q6, q7, q8⟩
 ·exact absurd (List.eq_nil_of_length_eq_zero q2) hne
 rw [Nat.mul_one] at q7 q8
 refine ⟨g, cap, cur, h1, q4, (Array.getElem?_eq_some_iff.1 q4).1, q5, q6, q7, fun j hj => ?_⟩
 have hj' : j < l.length := by simpa using hj
 refine ⟨?_, by rw [Nat.zero_add]; exact jD5 q4 j⟩
 have := congrArg (fun x => x[j]?) q8
 rw [List.getElem?_take_of_lt hj'] at this
 rw [Nat.zero_add, kk0 q4, <- Array.getElem?_toList, this]
 simp [List.getElem?_map, hj', getElem!_pos]
end Go.AM
