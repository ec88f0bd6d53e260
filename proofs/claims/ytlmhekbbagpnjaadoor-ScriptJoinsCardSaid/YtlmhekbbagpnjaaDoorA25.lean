/- An own map is gone through. -/
import Derived.Test.YtlmhekbbagpnjaaDoorA24
set_option linter.all false
namespace Go.AM
open Go Go.RowKit
section
variable {P : Program} {gt : Nat → Option (List D)} {t k e : TypeId} {ik : IntKind}

/-- What going through begins with. -/
def RgO (bx : List Ent) (j : Nat) (ks vs : List D) (d : D) (bx' : List Ent) : Prop := ∃ g : Gh, d = .box (sizeE bx) 0 ∧ bx' = addE (setE bx j (.mapx g ks vs)) (.ito g #[] none ks vs)
theorem pr_rngO {bx : List Ent} {j : Nat} (hu : P.underlying t = some (.map k e)) {ks vs : List D} (hj : entN bx j = some (.map ks vs)) (hcl : closedL vs = true) : PrA P gt (.rng t) [.ownm j 0] bx (RgO bx j ks vs) := by
  intro F K pl w o ρ xs hF hρ hI hq hr
  obtain ⟨x, rfl, hop⟩ := rng_op hq
  have h1 := repL1 hr
  simp only [Rep] at h1
  rw [entN_eq] at hj
  obtain ⟨b, es, clock, kvs, vvs, g1, g2, g3, g4, g5, g6, g7, g8, g9⟩ := hI.tab.ok j _ hj
  rw [h1.1] at g1
  injection g1 with g1
  have g1' := h1.1
  rw [g1] at g1'
  have g5' := closedL_rep _ _ hcl g5
  have hjl := (List.getElem?_eq_some_iff.1 hj).1
  have hI1 := hI.upd (w' := w) (e' := .mapx ⟨b, es, clock⟩ ks vs) hj (PLe.refl _) (fun _ _ _ => rfl) (fun c hc => .inl (by rw [entBlk_mapx g1'] at hc; rw [entBlk_map g1']; exact hc)) (Chg.refl _ _)
    ⟨kvs, vvs, g1', g2, g3, g4, g5', g6, g7, g8, g9⟩
  have hl1 : (bx.set j (.mapx ⟨b, es, clock⟩ ks vs)).length = bx.length := by simp
  have hadd := hI1.add (w' := w.alloc (.mapIter (some b) clock #[] clock)) (.pointer (some ⟨w.heap.size, 0, none⟩)) (.ito ⟨b, es, clock⟩ #[] none ks vs) (.inr (entBlk_ito (updPl_self _ _ _ _))) (Chg.alloc w _)
    ⟨w.heap.size, kvs, vvs, updPl_self _ _ _ _, hI.fresh, heap_new w _, g4, g5', g6, by rw [List.filter_eq_self.2 (fun _ _ => by simp)]; exact g7, by simp⟩
  rw [hl1] at hadd
  refine ⟨.pointer (some ⟨w.heap.size, 0, none⟩), _, K, _, .box (sizeE bx) 0, _, ⟨⟨b, es, clock⟩, rfl, rfl⟩, .inl ?_, KLe.refl _, hadd.1, by rw [addE_eq, setE_eq]; exact hadd.2, by simp only [Rep]; rw [sizeE_eq]; exact ⟨_, updPl_self _ _ _ _, rfl⟩⟩
  simp only [execOp, hop, h1.2, g1]
  simp [Instr.range, run_underlying hu, MapKept.run_getObj_map g3, newObj, Sem.run_bind, Sem.run]

/-- What the next step comes to. -/
def NxO (bx : List Ent) (j i : Nat) (g : Gh) (seen : Array Nat) (ks0 vs0 ks vs : List D) (d : D) (bx' : List Ent) : Prop :=
  (ks = [] ∧ d = .tup [.bool false] ∧ bx' = setE bx i (.map ks0 vs0)) ∨ ∃ n dk dv s, ks[n]? = some dk ∧ vs[n]? = some dv ∧ d = .tup [.bool true, dk, dv] ∧ bx' = setE bx j (.ito g s (some (dk, dv)) (ks.eraseIdx n) (vs.eraseIdx n))

theorem pr_nxtO {bx : List Ent} {j i : Nat} {g : Gh} {seen : Array Nat} {cur : Option (D × D)} {ks vs ks0 vs0 : List D} (hj : entN bx j = some (.ito g seen cur ks vs)) (hi : entN bx i = some (.mapx g ks0 vs0)) :
    PrA P gt (.nxt false) [.box j 0] bx (NxO bx j i g seen ks0 vs0 ks vs) := by
  intro F K pl w o ρ xs hF hρ hI hq hr
  obtain ⟨x, rfl, hop⟩ := one_op (f := fun x => .next x false) (fun _ => rfl) rfl (fun _ _ _ => rfl) hq
  have h1 := repL1 hr
  simp only [Rep] at h1
  rw [entN_eq] at hj hi
  obtain ⟨r, kvs, vvs, g1, g2, g3, g7, g8, g9, q1, q2⟩ := hI.tab.ok j _ hj
  obtain ⟨kvs0, vvs0, f1, f2, hb, f4, f5, f6, f7, g5, g6⟩ := hI.tab.ok i _ hi
  obtain ⟨b0, g0, h1⟩ := h1
  rw [g1] at g0; cases g0
  obtain ⟨m, es, clock⟩ := g
  dsimp only at *
  have hleft : (leftOf es seen).toList = es.toList.filter fun e => !seen.contains e.born := by simp [leftOf]
  rcases run_next_at (P := P) w o.type r m clock clock seen es clock g3 hb (fun x hx => g5 x (by simpa using hx)) (Nat.le_refl _) with ⟨h0, hrun⟩ | ⟨e, he, w1, hal, hrun⟩
  · have hnil : ks = [] := by
      have e0 : es.toList.filter (fun e => !seen.contains e.born) = [] := by
        rw [← hleft]; simpa using h0
      rw [e0] at q1
      have := q1.length_eq
      have l1 := g7.length
      have l2 := g8.length
      simp at this
      apply List.eq_nil_of_length_eq_zero
      omega
    have hfin := hI.upd (w' := w) (e' := .map ks0 vs0) hi (PLe.refl _) (fun _ _ _ => rfl) (fun c hc => .inl (by rw [entBlk_map f1] at hc; rw [entBlk_mapx f1]; exact hc)) (Chg.refl _ _)
      ⟨m, es, clock, kvs0, vvs0, f1, f2, hb, f4, RepL.mono (KLe.refl _) (PLe.zero _) _ _ f5, f6, f7, g5, g6⟩
    refine ⟨.tuple #[.bool false], w, K, pl, .tup [.bool false], _, .inl ⟨hnil, rfl, rfl⟩, .inl ?_, KLe.refl _, PLe.refl _, by rw [setE_eq]; exact hfin, by simp only [Rep, RepL]; exact ⟨_, rfl, _, _, rfl, rfl, rfl⟩⟩
    simp only [execOp, hop, h1]
    simp [Sem.run_bind, hrun]
  · rw [hleft] at he
    have hmem : (e.key, e.val) ∈ kvs.zip vvs := q1.mem_iff.1 (List.mem_map.2 ⟨e, he, rfl⟩)
    obtain ⟨n, hn⟩ := List.mem_iff_getElem?.1 hmem
    have hi2 := hn
    rw [List.getElem?_zip_eq_some] at hi2
    obtain ⟨dk, p1, p2⟩ := g7.back hi2.1
    obtain ⟨dv, p3, p4⟩ := g8.back hi2.2
    have hes : e ∈ es := by simpa using (List.mem_filter.1 he).1
    have hrlt := (Array.getElem?_eq_some_iff.1 g3).1
    have hheap : w1.heap = w.heap := by rcases hal with rfl | rfl <;> rfl
    have hchg : Chg (fun b => entBlk pl j (.ito ⟨m, es, clock⟩ seen cur ks vs) = some b) w (ChangeMaps.setBlock w1 r (.mapIter (some m) clock (seen.push e.born) clock)) := by
      refine ⟨?_, ?_, ?_, ?_, fun c hc hn => ?_⟩
      · rcases hal with rfl | rfl <;> rfl
      · rcases hal with rfl | rfl <;> rfl
      · rcases hal with rfl | rfl <;> rfl
      · simp [ChangeMaps.setBlock, hheap]
      · have hne : c ≠ r := fun e' => hn (by rw [e']; exact entBlk_ito g1)
        simp [ChangeMaps.setBlock, hheap, Ne.symm hne]
    have hperm : ((es.toList.filter fun x => !(seen.push e.born).contains x.born).map fun e => (e.key, e.val)).Perm ((kvs.eraseIdx n).zip (vvs.eraseIdx n)) := by
      have e1 : (es.toList.filter fun x => !(seen.push e.born).contains x.born) = (es.toList.filter fun x => !seen.contains x.born).filter fun x => x.born != e.born := by
        rw [List.filter_filter]
        congr 1
        funext x
        by_cases hx : x.born = e.born <;> simp [hx, bne, Bool.and_comm]
      rw [e1]
      have e2 := (filter_ne (f := (·.born)) ((List.filter_sublist.map _).nodup g6) he).map fun e => (e.key, e.val)
      have e3 := e2.symm.trans q1
      rw [← zip_eraseIdx]
      have e4 := perm_erase hn
      exact (e3.trans e4).cons_inv
    have hfin := hI.upd (e' := .ito ⟨m, es, clock⟩ (seen.push e.born) (some (dk, dv)) (ks.eraseIdx n) (vs.eraseIdx n)) hj (PLe.refl _) (fun _ _ _ => rfl) (fun b hb => .inl (by rw [entBlk_ito g1] at hb ⊢; exact hb)) hchg (by
      refine ⟨r, kvs.eraseIdx n, vvs.eraseIdx n, g1, g2, ?_, g7.eraseIdx, g8.eraseIdx, ?_, hperm, ?_⟩
      · simp [ChangeMaps.setBlock, hheap, hrlt]
      · rw [List.length_eraseIdx, List.length_eraseIdx, g9]
      · intro a b hab
        simp at hab
        obtain ⟨rfl, rfl⟩ := hab
        exact ⟨e, hes, by simp, p2, p4⟩)
    refine ⟨.tuple #[.bool true, e.key, e.val], _, K, pl, .tup [.bool true, dk, dv], _, .inr ⟨n, dk, dv, _, p1, p3, rfl, by rw [setE_eq]⟩, .inl ?_, KLe.refl _, PLe.refl _, hfin, ?_⟩
    · simp only [execOp, hop, h1]
      simp [Sem.run_bind, hrun]
    · simp only [Rep, RepL]
      exact ⟨_, rfl, _, _, rfl, rfl, _, _, rfl, Rep.mono (KLe.refl _) (PLe.zero _) _ _ p2, _, _, rfl, Rep.mono (KLe.refl _) (PLe.zero _) _ _ p4, rfl⟩

theorem pr_entO {bx : List Ent} {j i : Nat} {g : Gh} {seen : Array Nat} {dk dv : D} {ks vs ks0 vs0 : List D} (hj : entN bx j = some (.ito g seen (some (dk, dv)) ks vs)) (hi : entN bx i = some (.mapx g ks0 vs0)) : PrM P gt .ent [.box j 0] bx (.tup [dk, dv]) bx := by
  intro F K pl w o ρ xs hF hρ hI hq hr
  obtain ⟨x, rfl, hop⟩ := one_op (f := fun x => .entry x) (fun _ => rfl) rfl (fun _ _ _ => rfl) hq
  have h1 := repL1 hr
  simp only [Rep] at h1
  rw [entN_eq] at hj hi
  obtain ⟨r, kvs, vvs, g1, g2, g3, g7, g8, g9, q1, q2⟩ := hI.tab.ok j _ hj
  obtain ⟨kvs0, vvs0, f1, f2, hb, f4, f5, f6, f7, g5, g6⟩ := hI.tab.ok i _ hi
  obtain ⟨b0, g0, h1⟩ := h1
  rw [g1] at g0; cases g0
  obtain ⟨m, es, clock⟩ := g
  dsimp only at *
  obtain ⟨e, he, p1, p2, p3⟩ := q2 dk dv rfl
  obtain ⟨s0, rfl⟩ := Array.back?_eq_some_iff.1 p1
  have hrun := run_entry_at (P := P) w r m clock s0 es clock e g3 hb (by simpa using he) g6
  refine ⟨.tuple #[e.key, e.val], w, K, pl, .inl ?_, KLe.refl _, PLe.refl _, hI, ?_⟩
  · simp only [execOp, hop, h1]
    simp [Sem.run_bind, hrun]
  · simp only [Rep, RepL]
    exact ⟨_, rfl, _, _, rfl, Rep.mono (KLe.refl _) (PLe.zero _) _ _ p2, _, _, rfl, Rep.mono (KLe.refl _) (PLe.zero _) _ _ p3, rfl⟩
end
end Go.AM
