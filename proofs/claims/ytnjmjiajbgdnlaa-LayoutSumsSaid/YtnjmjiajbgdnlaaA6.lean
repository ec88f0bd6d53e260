/- What writes: a store, a new variable, a new row, an append. -/
import Derived.Test.YtnjmjiajbgdnlaaA5
set_option linter.all false
namespace Go.AM
open Go Go.RowKit

theorem heap_new (w : World) (o : Obj) : (w.alloc o).heap[w.heap.size]? = some o := by
  show (w.heap.push o)[w.heap.size]? = some o
  simp
theorem heap_old (w : World) (o : Obj) (i : Nat) (h : i < w.heap.size) : (w.alloc o).heap[i]? = w.heap[i]? := by
  show (w.heap.push o)[i]? = w.heap[i]?
  rw [Array.getElem?_push, if_neg (Nat.ne_of_lt h)]

section
variable {P : Program}

theorem run_zero {t : TypeId} {z : List D} (h : zeroOf P t = some z) (w : World) : ∃ v, (zeroValue t).run P w = .ok v w ∧ repsB z v.cells.toList = true ∧ ∃ i, P.info? t = some i ∧ i.zero = some v := by
  unfold zeroOf at h
  split at h
  · rename_i l v hl hv
    split at h
    · rename_i hr
      cases h
      cases hi : P.info? t with
      | none => simp [hi] at hv
      | some i =>
        simp [hi] at hv
        exact ⟨v, by simp [zeroValue, typeInfo, hi, hv], hr, i, rfl, hv⟩
    · cases h
  · cases h

theorem repB_ok {d : D} {v : Value} (h : repB d v = true) (K : Kn) (pl : Pl) : Rep K pl d v ∧ v.oneCell' = true := by
  unfold repB at h
  split at h
  · rename_i k n k' n'
    simp only [Bool.and_eq_true, beq_iff_eq] at h
    obtain ⟨h1, rfl⟩ := h
    have : k' = k := by cases k <;> cases k' <;> simp_all [kEq]
    subst this; simp [Rep, Value.oneCell']
  · simp at h; subst h; simp [Rep, Value.oneCell']
  · rename_i s s'
    simp only [beq_iff_eq] at h
    subst h; simp [Rep, Value.oneCell']
  · simp only [Rep]; exact ⟨⟨none, 0, 0, rfl, rfl, Nat.le_refl _, fun _ => rfl, .inl trivial⟩, rfl⟩
  · simp [Rep, Value.oneCell']
  · simp [Rep, Value.oneCell']
  · cases h

theorem repsB_ok (K : Kn) (pl : Pl) : ∀ {l : List D} {vs : List Value}, repsB l vs = true → RepL K pl l vs ∧ ∀ c ∈ vs, c.oneCell' = true
  | [], [], _ => ⟨by simp [RepL], nofun⟩
  | d :: l, v :: r, h => by
    simp only [repsB, Bool.and_eq_true] at h
    obtain ⟨h1, h2⟩ := repB_ok h.1 K pl
    obtain ⟨h3, h4⟩ := repsB_ok K pl h.2
    exact ⟨by simp only [RepL]; exact ⟨v, r, rfl, h1, h3⟩, fun c hc => by rcases List.mem_cons.1 hc with rfl | hc; exact h2; exact h4 c hc⟩
  | [], _ :: _, h => by simp [repsB] at h
  | _ :: _, [], h => by simp [repsB] at h

/-! ### A store into an own variable -/
theorem run_store_box {t : TypeId} {n : Option Nat} (hA : aggN P t = some n) {w : World} {b o : Nat} {cs : List Value} {T : TypeId} (hb : w.heap[b]? = some (.cells cs.toArray T (0, 0))) {v : Value}
    (hs : v.cells.size = n.getD 1) (h1 : ∀ u ∈ v.cells.toList, u.oneCell' = true) (hfit : o + v.cells.size ≤ cs.length) :
    (Instr.storeAt t (.pointer (some ⟨b, o, none⟩)) v).run P w = .ok () (w.setRow b (AM.splice cs o v.cells.toList).toArray) := by
  have hst := run_storeCells_at P b o T v.cells.toList 0 cs.toArray w hb (by simpa using hfit) h1
  have hsz := run_sizeOf' (aggN_size hA) w
  rw [splice_eq _ _ _ (by simpa using hfit)]
  simp only [Nat.add_zero] at hst
  simp [Instr.storeAt, Instr.sureAddr, storeVar, Sem.run_bind, hsz, hs, hst]

theorem Chg.setRow (w : World) (g : Nat) (cs : Array Value) : Chg (fun b => b = g) w (w.setRow g cs) :=
  ⟨rfl, rfl, rfl, by simp, fun k _ hn => setRow_other w g k cs hn⟩

/-- One entry is another now. -/
theorem Inv.upd {F K pl bx w} (h : Inv F K pl bx w) {pl' : Pl} {w' : World} {k : Nat} {e e' : Ent} (hk : bx[k]? = some e) (hp : PLe pl pl') (hpk : ∀ k' ver, k' ≠ k → pl' k' ver = pl k' ver)
    (he : ∀ b, entBlk pl' k e' = some b → entBlk pl k e = some b ∨ w.heap.size ≤ b) (hc : Chg (fun b => entBlk pl k e = some b) w w') (hok : EntOk K pl' w' k e') : Inv F K pl' (bx.set k e') w' := by
  have hsz := h.chg.size
  refine ⟨h.chg.trans hc fun b hb hs => ?_, fun b o hb => ?_, h.le, h.new, ?_, fun j f b hj hb => ?_, by simp; exact h.len, fun j ver x hj hx => hp _ _ _ (h.keep j ver x hj hx), h.glob⟩
  · rcases h.own k e b hk hs with h1 | h1
    · exact h1
    · omega
  · have hb' := h.mod b o hb
    rw [hc.block b (Array.getElem?_eq_some_iff.1 hb').1 fun hs => by have := (h.tab.lt hk hs).2; rw [hb] at this; cases this]
    exact hb'
  · exact h.tab.upd hk hp hpk he (fun b h1 h2 => hc.block b h1 h2) hok
  · have hlt := (List.getElem?_eq_some_iff.1 hk).1
    rw [List.getElem?_set] at hj
    split at hj
    · rename_i hkj; subst hkj; simp [hlt] at hj; subst hj
      rcases he b hb with h1 | h1
      · exact h.own k e b hk h1
      · exact .inr (by omega)
    · rename_i hkj
      refine h.own j f b hj ?_
      rw [← hb]; cases f <;> simp [entBlk, hpk j _ (Ne.symm hkj)]

/-- A new entry. -/
theorem Inv.add {F K pl bx w} (h : Inv F K pl bx w) {w' : World} (v : Value) (e : Ent) (he : entBlk (updPl pl bx.length 0 v) bx.length e = none ∨ entBlk (updPl pl bx.length 0 v) bx.length e = some w.heap.size)
    (hc : Chg (fun _ => False) w w') (hok : EntOk K (updPl pl bx.length 0 v) w' bx.length e) : PLe pl (updPl pl bx.length 0 v) ∧ Inv F K (updPl pl bx.length 0 v) (bx ++ [e]) w' := by
  have hsz := h.chg.size
  have hp : PLe pl (updPl pl bx.length 0 v) := updPl_le (h.tab.free _ _ (Nat.le_refl _))
  refine ⟨hp, h.chg.trans hc fun b hb hs => hs.elim, fun b o hb => ?_, h.le, h.new, ?_, fun j f b hj hb => ?_, by simp; have := h.len; omega, fun j ver x hj hx => hp _ _ _ (h.keep j ver x hj hx), h.glob⟩
  · have hb' := h.mod b o hb
    rw [hc.block b (Array.getElem?_eq_some_iff.1 hb').1 id]; exact hb'
  · exact h.tab.add v e he (fun b hb => hc.block b hb id) hok
  · rw [List.getElem?_append] at hj
    split at hj
    · rename_i hlt
      rw [entBlk_upd_ne (by omega)] at hb
      exact h.own j f b hj hb
    · have h0 : j - bx.length = 0 := by
        rcases Nat.eq_zero_or_pos (j - bx.length) with h | h
        · exact h
        · rw [List.getElem?_eq_none (by simp; omega)] at hj; cases hj
      rw [h0] at hj; simp at hj; subst hj
      have hj' : j = bx.length := by omega
      subst hj'
      rcases he with he | he <;> rw [he] at hb
      · cases hb
      · cases hb; exact .inr hsz

theorem Chg.alloc (w : World) (o : Obj) : Chg (fun _ => False) w (w.alloc o) := ⟨rfl, rfl, rfl, by simp, fun k hk _ => heap_old w o k hk⟩

theorem Inv.fresh {F K pl bx w} (h : Inv F K pl bx w) : K w.heap.size = none := by
  cases hc : K w.heap.size with
  | none => rfl
  | some o => have := h.mod _ _ hc; simp at this

theorem Inv.store {F K pl bx w} (h : Inv F K pl bx w) {k b : Nat} {l l' : List D} {cs' : List Value} (hk : bx[k]? = some (.cells l)) (hb : pl k 0 = some (.pointer (some ⟨b, 0, none⟩)))
    (hl : RepL K pl l' cs') (h1 : ∀ c ∈ cs', c.oneCell' = true) : Inv F K pl (bx.set k (.cells l')) (w.setRow b cs'.toArray) := by
  obtain ⟨b', T, cs, h2, h4, h5, h6, h7⟩ := h.tab.ok k _ hk
  rw [hb] at h2; cases h2
  refine h.upd hk (PLe.refl _) (fun _ _ _ => rfl) (fun c hc => ?_) ⟨rfl, rfl, rfl, by simp, fun c hc hn => setRow_other _ _ _ _ (fun e => hn (by rw [entBlk_cells hb, e]))⟩ ?_
  · left; rw [entBlk_cells hb] at hc ⊢; exact hc
  · exact ⟨b, T, cs', hb, h4, setRow_heap w b _ _ T _ h5, hl, h1⟩

/-! ### A new variable -/
theorem Inv.newVar {F K pl bx w} (h : Inv F K pl bx w) {l : List D} {cs : List Value} (T : TypeId) (hl : RepL K pl l cs) (h1 : ∀ c ∈ cs, c.oneCell' = true) :
    let pl' := updPl pl bx.length 0 (.pointer (some ⟨w.heap.size, 0, none⟩))
    PLe pl pl' ∧ Inv F K pl' (bx ++ [.cells l]) (w.alloc (.cells cs.toArray T)) ∧ Rep K pl' (.box bx.length 0) (.pointer (some ⟨w.heap.size, 0, none⟩)) := by
  intro pl'
  have hp : PLe pl pl' := updPl_le (h.tab.free _ _ (Nat.le_refl _))
  have := h.add (w' := w.alloc (.cells cs.toArray T)) (.pointer (some ⟨w.heap.size, 0, none⟩)) (.cells l) (.inr (entBlk_cells (updPl_self _ _ _ _))) (Chg.alloc w _)
    ⟨w.heap.size, T, cs, updPl_self _ _ _ _, h.fresh, heap_new w _, RepL.mono (KLe.refl _) hp _ _ hl, h1⟩
  exact ⟨hp, this.2, by simp only [Rep]; exact ⟨_, updPl_self _ _ _ _, rfl⟩⟩

/-! ### A new row that nobody writes -/
def addK (K : Kn) (b : Nat) (o : Obj) : Kn := fun c => if c = b then some o else K c
theorem addK_le {K : Kn} {b : Nat} {o : Obj} (h : K b = none) : KLe K (addK K b o) := fun c x hx => by
  unfold addK
  split
  · rename_i e; rw [e, h] at hx; cases hx
  · exact hx

theorem Inv.newRow {F K pl bx w} (h : Inv F K pl bx w) (o : Obj) :
    KLe K (addK K w.heap.size o) ∧ Inv F (addK K w.heap.size o) pl bx (w.alloc o) := by
  have hKn := h.fresh
  have hsz := h.chg.size
  have hle := addK_le (o := o) hKn
  refine ⟨hle, h.chg.trans (Chg.alloc w o) fun b hb hs => hs.elim, fun c o' hc => ?_, h.le.trans hle, fun c o' hc => ?_, ?_, h.own, h.len, h.keep, h.glob.mono hle⟩
  · unfold addK at hc
    split at hc
    · rename_i e; cases hc; rw [e]; exact heap_new w _
    · rw [heap_old w _ c (by have := h.mod c o' hc; exact (Array.getElem?_eq_some_iff.1 this).1)]; exact h.mod c o' hc
  · unfold addK at hc
    split at hc
    · rename_i e; right; right; rw [e]; exact hsz
    · exact h.new c o' hc
  · exact h.tab.move hle fun b h2 h3 _ => ⟨heap_old w _ b h2, by unfold addK; rw [if_neg (by omega)]; exact h3⟩

/-- Own rows are given up: nobody writes them any more. -/
theorem Inv.give {F K pl bx w} (h : Inv F K pl bx w) {k : Nat} {e : TypeId} {sz ver : Nat} {rows : List D} (hk : bx[k]? = some (.arr e sz ver rows)) :
    ∃ K', KLe K K' ∧ Inv F K' pl (bx.set k .gone) w ∧ ∀ v, pl k ver = some v → Rep K' pl0 (.ls sz rows) v := by
  obtain ⟨v, vs, h1, h2, h3, h4, h5, h6⟩ := h.tab.ok k _ hk
  have hgone : ∀ K', KLe K K' → (∀ b o, K' b = some o → w.heap[b]? = some o) → (∀ b o, K' b = some o → K b = some o ∨ entBlk pl k (.arr e sz ver rows) = some b) → Inv F K' pl (bx.set k .gone) w := by
    intro K' hle hmod hnew
    have hlt := (List.getElem?_eq_some_iff.1 hk).1
    have hcase : ∀ j f, (bx.set k .gone)[j]? = some f → (j ≠ k ∧ bx[j]? = some f) ∨ (j = k ∧ f = .gone) := fun j f hj => by
      rw [List.getElem?_set] at hj
      split at hj
      · rename_i hkj; subst hkj; simp [hlt] at hj; exact .inr ⟨rfl, hj.symm⟩
      · exact .inl ⟨by omega, hj⟩
    refine ⟨h.chg, hmod, h.le.trans hle, fun b o hb => ?_, ⟨fun j f hj => ?_, fun i j f f' b hij hi hj hb hb2 => ?_, fun j ver hj => h.tab.free j ver (by simpa using hj)⟩, fun j f b hj hb => ?_, by simp; exact h.len, h.keep, h.glob.mono hle⟩
    · rcases hnew b o hb with h7 | h7
      · exact h.new b o h7
      · exact .inr (h.own k _ b hk h7)
    · rcases hcase j f hj with ⟨h7, h8⟩ | ⟨rfl, rfl⟩
      · refine (h.tab.ok j f h8).move hle (PLe.refl _) (fun b hb => ⟨rfl, ?_⟩) (fun _ => rfl)
        cases hK : K' b with
        | none => rfl
        | some o =>
          rcases hnew b o hK with h9 | h9
          · have := (h.tab.lt h8 hb).2; rw [h9] at this; cases this
          · exact absurd hb (h.tab.sep k j _ f b (Ne.symm h7) hk h8 h9)
      · trivial
    · rcases hcase i f hi with ⟨h7, h8⟩ | ⟨rfl, rfl⟩ <;> rcases hcase j f' hj with ⟨h9, h10⟩ | ⟨rfl, rfl⟩
      · exact h.tab.sep i j f f' b hij h8 h10 hb hb2
      · simp [entBlk] at hb2
      · simp [entBlk] at hb
      · exact hij rfl
    · rcases hcase j f hj with ⟨h7, h8⟩ | ⟨rfl, rfl⟩
      · exact h.own j f b h8 hb
      · simp [entBlk] at hb
  rcases h2.2 with ⟨rfl, h7⟩ | ⟨g, cap, cur, rfl, _, h9, h10, h11, h12, h13⟩
  · refine ⟨K, KLe.refl _, hgone K (KLe.refl _) h.mod fun b o hb => .inl hb, fun v hv => ?_⟩
    rw [h1] at hv; cases hv
    simp only [Rep]
    exact ⟨none, 0, 0, rfl, h7.symm, Nat.le_refl _, fun _ => rfl, .inl (List.eq_nil_of_length_eq_zero h7)⟩
  · have hgn : K g = none := h5 g rfl
    have hle := addK_le (o := .cells cur e (0, 0)) hgn
    refine ⟨addK K g (.cells cur e (0, 0)), hle, hgone _ hle (fun b o hb => ?_) (fun b o hb => ?_), fun v hv => ?_⟩
    · unfold addK at hb
      split at hb
      · rename_i e1; cases hb; rw [e1]; exact h9
      · exact h.mod b o hb
    · unfold addK at hb
      split at hb
      · rename_i e1; right; rw [e1]; simp [entBlk, h1, blkV]
      · exact .inl hb
    · rw [h1] at hv; cases hv
      simp only [Rep]
      refine ⟨_, _, _, rfl, rfl, h10, nofun, .inr ⟨g, 0, vs, rfl, RepL.mono hle (PLe.refl _) _ _ h3, cur, e, (0, 0), by simp [addK], h4, ?_⟩⟩
      rw [List.drop_zero, ← h13]
      exact List.take_prefix _ _

/-! ### 'fill' -/
theorem foldl_cells : ∀ (vs : List Value) (o j : Nat) (cs : Array Value), o + j + vs.length ≤ cs.size →
    ((vs.zipIdx j).foldl (fun cs (p : Value × Nat) => cs.setIfInBounds (o + p.2) p.1) cs).toList = AM.splice cs.toList (o + j) vs
  | [], o, j, cs, _ => by simp [AM.splice]
  | v :: vs, o, j, cs, h => by
    simp only [List.zipIdx_cons, List.foldl_cons, AM.splice]
    rw [foldl_cells vs o (j + 1) _ (by simp at h ⊢; omega)]
    simp [Nat.add_assoc]

theorem fill_step {place : Nat → Option (Nat × Nat)} {cells : Array Value} {i off size : Nat} {v : Value} {rest : List (Nat × Value)} (hp : place i = some (off, size)) (hs : v.cells.size = size) (hf : off + size ≤ cells.size) :
    ∃ cells', Instr.fill place cells ((i, v) :: rest) = Instr.fill place cells' rest ∧ cells'.toList = AM.splice cells.toList off v.cells.toList := by
  have h := foldl_cells v.cells.toList off 0 cells (by simp; omega)
  simp only [Nat.add_zero] at h
  simp only [Instr.fill, hp]
  rw [if_neg (by simp; omega)]
  rw [← Array.foldl_toList]
  refine ⟨_, rfl, ?_⟩
  simpa using h

/-- Rows, in their order, over a row of zeros. -/
theorem fill_rows {sz : Nat} (e : Nat) : ∀ (vs : List Value) (i : Nat) (cells : Array Value) (done : List Value), sized sz vs → done.length = i * sz → cells.toList.take (i * sz) = done → cells.size = (i + vs.length) * sz →
    ∃ r, Instr.fill (fun i => some (i * sz, sz)) cells ((vs.zipIdx i).map fun p => (p.2, p.1)) = some r ∧ r.toList = done ++ flat vs
  | [], i, cells, done, _, hd, ht, hc => by
    refine ⟨cells, rfl, ?_⟩
    simp only [flat, List.flatMap_nil, List.append_nil]
    rw [← ht, List.take_of_length_le]
    simp; simp at hc; omega
  | v :: vs, i, cells, done, hs, hd, ht, hc => by
    have hv := (hs v (by simp)).1
    have hfit : i * sz + sz ≤ cells.size := by
      rw [hc]; simp only [List.length_cons]
      have : (i + (vs.length + 1)) * sz = i * sz + sz + vs.length * sz := by rw [Nat.add_mul, Nat.add_mul]; omega
      omega
    obtain ⟨cells', h1, h2⟩ := fill_step (place := fun i => some (i * sz, sz)) (cells := cells) (i := i) (v := v) (rest := (vs.zipIdx (i + 1)).map fun p => (p.2, p.1)) rfl hv hfit
    rw [splice_eq _ _ _ (by simp; omega)] at h2
    have hlen : cells'.size = cells.size := by
      have := congrArg List.length h2
      simp at this; omega
    have htake : cells'.toList.take ((i + 1) * sz) = done ++ v.cells.toList := by
      rw [h2, ht, Nat.add_mul, Nat.one_mul]
      have e1 : i * sz + sz = (done ++ v.cells.toList).length := by simp [hd]; omega
      rw [e1]
      exact List.take_left
    obtain ⟨r, h3, h4⟩ := fill_rows e vs (i + 1) cells' (done ++ v.cells.toList) (fun x hx => hs x (by simp [hx])) (by simp [hd, Nat.add_mul]; omega) htake (by rw [hlen, hc]; simp only [List.length_cons]; congr 1; omega)
    refine ⟨r, ?_, by rw [h4]; simp [flat]⟩
    rw [List.zipIdx_cons, List.map_cons, h1]
    exact h3
end
end Go.AM
