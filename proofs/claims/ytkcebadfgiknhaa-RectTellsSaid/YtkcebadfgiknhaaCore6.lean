/- What writes: a store, a new variable, a new row, an append. -/
import Derived.Test.YtkcebadfgiknhaaCore5
set_option linter.all false
namespace Go.AM
open Go Go.RowKit

theorem heap_new (w : World) (o : Obj) : (w.alloc o).heap[w.heap.size]? = some o := by
  show (w.heap.push o)[w.heap.size]? = some o
  simp
theorem heap_old (w : World) (o : Obj) (i : Nat) (h : i < w.heap.size) : (w.alloc o).heap[i]? = w.heap[i]? := by
  show (w.heap.push o)[i]? = w.heap[i]?
  rw [Array.getElem?_push, if_neg (Nat.ne_of_lt h)]

section
variable {P : Program}

theorem run_zero {t : TypeId} {z : List D} (h : zeroOf P t = some z) (w : World) : ∃ v, (zeroValue t).run P w = .ok v w ∧ repsB z v.cells.toList = true ∧ ∃ i, P.info? t = some i ∧ i.zero = some v := by
  unfold zeroOf at h
  split at h
  · rename_i l v hl hv
    split at h
    · rename_i hr
      cases h
      cases hi : P.info? t with
      | none => simp [hi] at hv
      | some i =>
        simp [hi] at hv
        exact ⟨v, by simp [zeroValue, typeInfo, hi, hv], hr, i, rfl, hv⟩
    · cases h
  · cases h

theorem repB_ok {d : D} {v : Value} (h : repB d v = true) (K : Kn) (pl : Pl) : Rep K pl d v ∧ v.oneCell' = true := by
  unfold repB at h
  split at h
  · rename_i k n k' n'
    simp only [Bool.and_eq_true, beq_iff_eq] at h
    obtain ⟨h1, rfl⟩ := h
    have : k' = k := by cases k <;> cases k' <;> simp_all [kEq]
    subst this; simp [Rep, Value.oneCell']
  · simp at h; subst h; simp [Rep, Value.oneCell']
  · rename_i s s'
    simp only [beq_iff_eq] at h
    have : s' = s := by
      cases s; cases s'; simp at h; exact congrArg ByteArray.mk h.symm
    subst this; simp [Rep, Value.oneCell']
  · simp only [Rep]; exact ⟨⟨none, 0, 0, rfl, rfl, fun _ => rfl, .inl trivial⟩, rfl⟩
  · cases h

theorem repsB_ok (K : Kn) (pl : Pl) : ∀ {l : List D} {vs : List Value}, repsB l vs = true → RepL K pl l vs ∧ ∀ c ∈ vs, c.oneCell' = true
  | [], [], _ => ⟨by simp [RepL], nofun⟩
  | d :: l, v :: r, h => by
    simp only [repsB, Bool.and_eq_true] at h
    obtain ⟨h1, h2⟩ := repB_ok h.1 K pl
    obtain ⟨h3, h4⟩ := repsB_ok K pl h.2
    exact ⟨by simp only [RepL]; exact ⟨v, r, rfl, h1, h3⟩, fun c hc => by rcases List.mem_cons.1 hc with rfl | hc; exact h2; exact h4 c hc⟩
  | [], _ :: _, h => by simp [repsB] at h
  | _ :: _, [], h => by simp [repsB] at h

/-! ### A store into an own variable -/
theorem run_store_box {t : TypeId} {n : Option Nat} (hA : aggN P t = some n) {w : World} {b o : Nat} {cs : List Value} {T : TypeId} (hb : w.heap[b]? = some (.cells cs.toArray T (0, 0))) {v : Value}
    (hs : v.cells.size = n.getD 1) (h1 : ∀ u ∈ v.cells.toList, u.oneCell' = true) (hfit : o + v.cells.size ≤ cs.length) :
    (Instr.storeAt t (.pointer (some ⟨b, o, none⟩)) v).run P w = .ok () (w.setRow b (AM.splice cs o v.cells.toList).toArray) := by
  have hst := run_storeCells_at P b o T v.cells.toList 0 cs.toArray w hb (by simpa using hfit) h1
  have hsz := run_sizeOf' (aggN_size hA) w
  rw [splice_eq _ _ _ (by simpa using hfit)]
  simp only [Nat.add_zero] at hst
  simp [Instr.storeAt, Instr.sureAddr, storeVar, Sem.run_bind, hsz, hs, hst]

theorem Below.setRow {B : Nat} {a w : World} (h : Below B a w) {g : Nat} (hg : B ≤ g) (cs : Array Value) : Below B a (w.setRow g cs) :=
  h.trans ⟨rfl, rfl, rfl, by simp, fun k hk => setRow_other w g k cs (by omega)⟩

theorem Inv.store {B w0 K0 K pl bx w} (h : Inv B w0 K0 K pl bx w) {k b : Nat} {l l' : List D} {cs' : List Value} (hk : bx[k]? = some (.cells l)) (hb : pl k 0 = some (.pointer (some ⟨b, 0, none⟩)))
    (hl : RepL K pl l' cs') (h1 : ∀ c ∈ cs', c.oneCell' = true) : Inv B w0 K0 K pl (bx.set k (.cells l')) (w.setRow b cs'.toArray) := by
  obtain ⟨b', T, cs, h2, h3, h4, h5, h6, h7⟩ := h.tab.ok k _ hk
  rw [hb] at h2; cases h2
  have hne : ∀ c o, K c = some o → c ≠ b := fun c o hc e => by rw [e, h4] at hc; cases hc
  refine ⟨Below.setRow h.below h3 _, by simp; exact h.base, fun c o hc => by rw [setRow_other _ _ _ _ (hne c o hc)]; exact h.mod c o hc, h.le, h.new, ?_⟩
  refine h.tab.upd hk (PLe.refl _) (fun _ _ _ => rfl) (fun c hc => ?_) (fun c hc hc' => ?_) ?_
  · left; rw [entBlk_cells hb] at hc ⊢; exact hc
  · rw [entBlk_cells hb] at hc'; exact setRow_other _ _ _ _ (fun e => hc' (by rw [e]))
  · exact ⟨b, T, cs', hb, h3, h4, setRow_heap w b _ _ T _ h5, hl, h1⟩

/-! ### A new variable -/
theorem Inv.newVar {B w0 K0 K pl bx w} (h : Inv B w0 K0 K pl bx w) {l : List D} {cs : List Value} (T : TypeId) (hl : RepL K pl l cs) (h1 : ∀ c ∈ cs, c.oneCell' = true) :
    let pl' := updPl pl bx.length 0 (.pointer (some ⟨w.heap.size, 0, none⟩))
    PLe pl pl' ∧ Inv B w0 K0 K pl' (bx ++ [.cells l]) (w.alloc (.cells cs.toArray T)) ∧ Rep K pl' (.box bx.length 0) (.pointer (some ⟨w.heap.size, 0, none⟩)) := by
  intro pl'
  have hp : PLe pl pl' := updPl_le (h.tab.free _ _ (Nat.le_refl _))
  have hKn : K w.heap.size = none := by
    cases hc : K w.heap.size with
    | none => rfl
    | some o => have := h.mod _ _ hc; simp at this
  refine ⟨hp, ⟨h.below.alloc h.base _, by simp; have := h.base; omega, fun c o hc => ?_, h.le, h.new, ?_⟩, ?_⟩
  · rw [heap_old w _ c (by have := h.mod c o hc; exact (Array.getElem?_eq_some_iff.1 this).1)]; exact h.mod c o hc
  · refine h.tab.add _ _ (.inr ?_) (fun b hb => heap_old w _ b hb) ?_
    · exact entBlk_cells (updPl_self _ _ _ _)
    · exact ⟨w.heap.size, T, cs, updPl_self _ _ _ _, h.base, hKn, heap_new w _, RepL.mono (KLe.refl _) hp _ _ hl, h1⟩
  · simp only [Rep]; exact ⟨_, updPl_self _ _ _ _, rfl⟩

/-! ### A new row that nobody writes -/
def addK (K : Kn) (b : Nat) (o : Obj) : Kn := fun c => if c = b then some o else K c
theorem addK_le {K : Kn} {b : Nat} {o : Obj} (h : K b = none) : KLe K (addK K b o) := fun c x hx => by
  unfold addK
  split
  · rename_i e; rw [e, h] at hx; cases hx
  · exact hx

theorem Inv.newRow {B w0 K0 K pl bx w} (h : Inv B w0 K0 K pl bx w) (cs : Array Value) (T : TypeId) :
    KLe K (addK K w.heap.size (.cells cs T)) ∧ Inv B w0 K0 (addK K w.heap.size (.cells cs T)) pl bx (w.alloc (.cells cs T)) := by
  have hKn : K w.heap.size = none := by
    cases hc : K w.heap.size with
    | none => rfl
    | some o => have := h.mod _ _ hc; simp at this
  refine ⟨addK_le hKn, h.below.alloc h.base _, by simp; have := h.base; omega, fun c o hc => ?_, h.le.trans (addK_le hKn), fun c o hc => ?_, ?_⟩
  · unfold addK at hc
    split at hc
    · rename_i e; cases hc; rw [e]; exact heap_new w _
    · rw [heap_old w _ c (by have := h.mod c o hc; exact (Array.getElem?_eq_some_iff.1 this).1)]; exact h.mod c o hc
  · unfold addK at hc
    split at hc
    · rename_i e; right; rw [e]; exact h.base
    · exact h.new c o hc
  · exact h.tab.move (addK_le hKn) fun b h1 h2 h3 _ => ⟨heap_old w _ b h2, by unfold addK; rw [if_neg (by omega)]; exact h3⟩

/-! ### 'fill' -/
theorem foldl_cells : ∀ (vs : List Value) (o j : Nat) (cs : Array Value), o + j + vs.length ≤ cs.size →
    ((vs.zipIdx j).foldl (fun cs (p : Value × Nat) => cs.setIfInBounds (o + p.2) p.1) cs).toList = AM.splice cs.toList (o + j) vs
  | [], o, j, cs, _ => by simp [AM.splice]
  | v :: vs, o, j, cs, h => by
    simp only [List.zipIdx_cons, List.foldl_cons, AM.splice]
    rw [foldl_cells vs o (j + 1) _ (by simp at h ⊢; omega)]
    simp [Nat.add_assoc]

theorem fill_step {place : Nat → Option (Nat × Nat)} {cells : Array Value} {i off size : Nat} {v : Value} {rest : List (Nat × Value)} (hp : place i = some (off, size)) (hs : v.cells.size = size) (hf : off + size ≤ cells.size) :
    ∃ cells', Instr.fill place cells ((i, v) :: rest) = Instr.fill place cells' rest ∧ cells'.toList = AM.splice cells.toList off v.cells.toList := by
  have h := foldl_cells v.cells.toList off 0 cells (by simp; omega)
  simp only [Nat.add_zero] at h
  simp only [Instr.fill, hp]
  rw [if_neg (by simp; omega)]
  rw [← Array.foldl_toList]
  refine ⟨_, rfl, ?_⟩
  simpa using h

/-- Rows, in their order, over a row of zeros. -/
theorem fill_rows {sz : Nat} (e : Nat) : ∀ (vs : List Value) (i : Nat) (cells : Array Value) (done : List Value), sized sz vs → done.length = i * sz → cells.toList.take (i * sz) = done → cells.size = (i + vs.length) * sz →
    ∃ r, Instr.fill (fun i => some (i * sz, sz)) cells ((vs.zipIdx i).map fun p => (p.2, p.1)) = some r ∧ r.toList = done ++ flat vs
  | [], i, cells, done, _, hd, ht, hc => by
    refine ⟨cells, rfl, ?_⟩
    simp only [flat, List.flatMap_nil, List.append_nil]
    rw [← ht, List.take_of_length_le]
    simp; simp at hc; omega
  | v :: vs, i, cells, done, hs, hd, ht, hc => by
    have hv := (hs v (by simp)).1
    have hfit : i * sz + sz ≤ cells.size := by
      rw [hc]; simp only [List.length_cons]
      have : (i + (vs.length + 1)) * sz = i * sz + sz + vs.length * sz := by rw [Nat.add_mul, Nat.add_mul]; omega
      omega
    obtain ⟨cells', h1, h2⟩ := fill_step (place := fun i => some (i * sz, sz)) (cells := cells) (i := i) (v := v) (rest := (vs.zipIdx (i + 1)).map fun p => (p.2, p.1)) rfl hv hfit
    rw [splice_eq _ _ _ (by simp; omega)] at h2
    have hlen : cells'.size = cells.size := by
      have := congrArg List.length h2
      simp at this; omega
    have htake : cells'.toList.take ((i + 1) * sz) = done ++ v.cells.toList := by
      rw [h2, ht, Nat.add_mul, Nat.one_mul]
      have e1 : i * sz + sz = (done ++ v.cells.toList).length := by simp [hd]; omega
      rw [e1]
      exact List.take_left
    obtain ⟨r, h3, h4⟩ := fill_rows e vs (i + 1) cells' (done ++ v.cells.toList) (fun x hx => hs x (by simp [hx])) (by simp [hd, Nat.add_mul]; omega) htake (by rw [hlen, hc]; simp only [List.length_cons]; congr 1; omega)
    refine ⟨r, ?_, by rw [h4]; simp [flat]⟩
    rw [List.zipIdx_cons, List.map_cons, h1]
    exact h3
end
end Go.AM
