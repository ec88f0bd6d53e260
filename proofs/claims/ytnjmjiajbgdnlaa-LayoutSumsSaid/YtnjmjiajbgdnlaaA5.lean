/- The own memory, moved on; loads and stores. -/
import Derived.Test.YtnjmjiajbgdnlaaA4
import Derived.Deep.MidRow
set_option linter.all false
namespace Go.AM
open Go Go.RowKit

theorem entBlk_cells {pl k b l} (h : pl k 0 = some (.pointer (some ⟨b, 0, none⟩))) : entBlk pl k (.cells l) = some b := by simp [entBlk, h, blkV]

theorem EntOk.move {K K' : Kn} {pl pl' : Pl} {k : Nat} {w w' : World} {e : Ent} (h : EntOk K pl w k e) (hK : KLe K K') (hp : PLe pl pl')
    (hw : ∀ b, entBlk pl k e = some b → w'.heap[b]? = w.heap[b]? ∧ K' b = none) (hv : ∀ ver, pl' k ver = pl k ver) : EntOk K' pl' w' k e := by
  cases e with
  | gone => trivial
  | cells l =>
    obtain ⟨b, T, cs, h1, h3, h4, h5, h6⟩ := h
    obtain ⟨h7, h8⟩ := hw b (entBlk_cells h1)
    exact ⟨b, T, cs, by rw [hv]; exact h1, h8, by rw [h7]; exact h4, RepL.mono hK hp _ _ h5, h6⟩
  | arr ty sz ver rows =>
    obtain ⟨v, vs, h1, h2, h3, h4, h5, h6⟩ := h
    refine ⟨v, vs, by rw [hv]; exact h1, ?_, RepL.mono hK (PLe.refl _) _ _ h3, h4, fun b hb => ?_, fun ver' hlt => by rw [hv]; exact h6 ver' hlt⟩
    · obtain ⟨h7, h8⟩ := h2
      refine ⟨h7, ?_⟩
      rcases h8 with h8 | ⟨g, cap, cur, rfl, h9, h10, h11⟩
      · exact .inl h8
      · exact .inr ⟨g, cap, cur, rfl, h9, by rw [(hw g (by simp [entBlk, h1, blkV])).1]; exact h10, h11⟩
    · cases v <;> simp [Value.ownBlock] at hb
      rename_i a n c
      cases a with
      | none => simp [Value.ownBlock] at hb
      | some a => exact (hw b (by simp [entBlk, h1, blkV]; simpa [Value.ownBlock] using hb)).2

theorem Tab.lt {K pl w bx} (h : Tab K pl w bx) {k e b} (hk : bx[k]? = some e) (hb : entBlk pl k e = some b) : b < w.heap.size ∧ K b = none := by
  have h1 := h.ok k e hk
  cases e with
  | gone => simp [entBlk] at hb
  | cells l =>
    obtain ⟨b', T, cs, h1, h3, h4, _⟩ := h1
    rw [entBlk_cells h1] at hb; cases hb
    exact ⟨(Array.getElem?_eq_some_iff.1 h4).1, h3⟩
  | arr ty sz ver rows =>
    obtain ⟨v, vs, h1, h2, _, _, h5, _⟩ := h1
    simp only [entBlk, h1, Option.bind_some] at hb
    have hown : v.ownBlock = some b := by
      rcases h2.2 with ⟨rfl, _⟩ | ⟨g, cap, cur, rfl, _⟩
      · simp [blkV] at hb
      · simpa [blkV, Value.ownBlock] using hb
    exact ⟨(h2.lt b hown).2, h5 b hown⟩

/-- All is where it was, and nothing of it has become known. -/
theorem Tab.move {K K' pl w w' bx} (h : Tab K pl w bx) (hK : KLe K K') (hw : ∀ b, b < w.heap.size → K b = none → (∃ k e, bx[k]? = some e ∧ entBlk pl k e = some b) → w'.heap[b]? = w.heap[b]? ∧ K' b = none) : Tab K' pl w' bx :=
  ⟨fun k e hk => (h.ok k e hk).move hK (PLe.refl _) (fun b hb => by obtain ⟨h1, h3⟩ := h.lt hk hb; exact hw b h1 h3 ⟨k, e, hk, hb⟩) (fun _ => rfl), h.sep, h.free⟩

def updPl (pl : Pl) (k ver : Nat) (v : Value) : Pl := fun k' ver' => if k' = k ∧ ver' = ver then some v else pl k' ver'
theorem updPl_self (pl : Pl) (k ver : Nat) (v : Value) : updPl pl k ver v k ver = some v := by simp [updPl]
theorem updPl_le {pl : Pl} {k ver : Nat} {v : Value} (h : pl k ver = none) : PLe pl (updPl pl k ver v) := fun k' ver' x hx => by
  unfold updPl
  split
  · rename_i he; rw [he.1, he.2, h] at hx; cases hx
  · exact hx
theorem updPl_ne {pl : Pl} {k k' ver ver' : Nat} {v : Value} (h : k' ≠ k ∨ ver' ≠ ver) : updPl pl k ver v k' ver' = pl k' ver' := by
  unfold updPl
  rw [if_neg]
  rintro ⟨h1, h2⟩
  rcases h with h | h
  · exact h h1
  · exact h h2

theorem addE_eq (bx : List Ent) (e : Ent) : addE bx e = bx ++ [e] := by induction bx with | nil => rfl | cons x l ih => simp [addE, ih]
theorem sizeE_eq (bx : List Ent) : sizeE bx = bx.length := by induction bx with | nil => rfl | cons x l ih => simp [sizeE, ih]
theorem entN_eq (bx : List Ent) (k : Nat) : entN bx k = bx[k]? := by
  induction bx generalizing k with
  | nil => simp [entN]
  | cons x l ih => cases k <;> simp [entN, ih]
theorem setE_eq (bx : List Ent) (k : Nat) (e : Ent) : setE bx k e = bx.set k e := by
  induction bx generalizing k with
  | nil => simp [setE]
  | cons x l ih => cases k <;> simp [setE, ih]

theorem entBlk_upd_ne {pl : Pl} {k k' ver : Nat} {v : Value} {e : Ent} (h : k' ≠ k) : entBlk (updPl pl k ver v) k' e = entBlk pl k' e := by
  cases e <;> simp [entBlk, updPl_ne (Or.inl h)]

/-- A new entry, in a new block (or in none). -/
theorem Tab.add {K pl w w' bx} (h : Tab K pl w bx) (v : Value) (e : Ent) (he : entBlk (updPl pl bx.length 0 v) bx.length e = none ∨ entBlk (updPl pl bx.length 0 v) bx.length e = some w.heap.size)
    (hw : ∀ b, b < w.heap.size → w'.heap[b]? = w.heap[b]?) (hok : EntOk K (updPl pl bx.length 0 v) w' bx.length e) : Tab K (updPl pl bx.length 0 v) w' (bx ++ [e]) := by
  have hne : ∀ k f, bx[k]? = some f → k ≠ bx.length := fun k f hk => by have := (List.getElem?_eq_some_iff.1 hk).1; omega
  have hcase : ∀ k f, (bx ++ [e])[k]? = some f → (bx[k]? = some f ∧ k ≠ bx.length) ∨ (k = bx.length ∧ f = e) := fun k f hk => by
    rw [List.getElem?_append] at hk
    split at hk
    · exact .inl ⟨hk, by omega⟩
    · have : k - bx.length = 0 := by
        rcases Nat.eq_zero_or_pos (k - bx.length) with h | h
        · exact h
        · rw [List.getElem?_eq_none (by simp; omega)] at hk; cases hk
      rw [this] at hk; simp at hk
      exact .inr ⟨by omega, hk.symm⟩
  refine ⟨fun k f hk => ?_, fun i j f f' b hij hi hj hb hb' => ?_, fun k ver hk => ?_⟩
  · rcases hcase k f hk with ⟨h1, h2⟩ | ⟨rfl, rfl⟩
    · exact (h.ok k f h1).move (KLe.refl _) (updPl_le (h.free _ _ (Nat.le_refl _))) (fun b hb => ⟨hw b (h.lt h1 hb).1, (h.lt h1 hb).2⟩) (fun ver => updPl_ne (.inl h2))
    · exact hok
  · rcases hcase i f hi with ⟨h1, h2⟩ | ⟨rfl, rfl⟩ <;> rcases hcase j f' hj with ⟨h3, h4⟩ | ⟨rfl, rfl⟩
    · rw [entBlk_upd_ne h2] at hb; rw [entBlk_upd_ne h4] at hb'
      exact h.sep i j f f' b hij h1 h3 hb hb'
    · rw [entBlk_upd_ne h2] at hb
      have := (h.lt h1 hb).1
      rcases he with he | he <;> rw [he] at hb'
      · cases hb'
      · cases hb'; omega
    · rw [entBlk_upd_ne h4] at hb'
      have := (h.lt h3 hb').1
      rcases he with he | he <;> rw [he] at hb
      · cases hb
      · cases hb; omega
    · exact hij rfl
  · simp at hk
    rw [updPl_ne (.inl (by omega))]
    exact h.free k ver (by omega)

/-- One entry is another, in the same block, or in a new one. -/
theorem Tab.upd {K pl pl' w w' bx} (h : Tab K pl w bx) {k : Nat} {e e' : Ent} (hk : bx[k]? = some e) (hp : PLe pl pl') (hpk : ∀ k' ver, k' ≠ k → pl' k' ver = pl k' ver)
    (he : ∀ b, entBlk pl' k e' = some b → entBlk pl k e = some b ∨ w.heap.size ≤ b)
    (hw : ∀ b, b < w.heap.size → entBlk pl k e ≠ some b → w'.heap[b]? = w.heap[b]?) (hok : EntOk K pl' w' k e') : Tab K pl' w' (bx.set k e') := by
  have hlt := (List.getElem?_eq_some_iff.1 hk).1
  have hb' : ∀ j f, j ≠ k → entBlk pl' j f = entBlk pl j f := fun j f hj => by cases f <;> simp [entBlk, hpk _ _ hj]
  have hcase : ∀ j f, (bx.set k e')[j]? = some f → (j ≠ k ∧ bx[j]? = some f) ∨ (j = k ∧ f = e') := fun j f hj => by
    rw [List.getElem?_set] at hj
    split at hj
    · rename_i hkj; subst hkj; simp [hlt] at hj; exact .inr ⟨rfl, hj.symm⟩
    · exact .inl ⟨by omega, hj⟩
  refine ⟨fun j f hj => ?_, fun i j f f' b hij hi hj hb hb2 => ?_, fun j ver hj => ?_⟩
  · rcases hcase j f hj with ⟨h1, h2⟩ | ⟨rfl, rfl⟩
    · exact (h.ok j f h2).move (KLe.refl _) hp (fun b hb => ⟨hw b (h.lt h2 hb).1 (fun h3 => h.sep k j e f b (Ne.symm h1) hk h2 h3 hb), (h.lt h2 hb).2⟩) (fun ver => hpk j ver h1)
    · exact hok
  · rcases hcase i f hi with ⟨h1, h2⟩ | ⟨rfl, rfl⟩ <;> rcases hcase j f' hj with ⟨h3, h4⟩ | ⟨rfl, rfl⟩
    · rw [hb' _ _ h1] at hb; rw [hb' _ _ h3] at hb2
      exact h.sep i j f f' b hij h2 h4 hb hb2
    · rw [hb' _ _ h1] at hb
      rcases he b hb2 with h5 | h5
      · exact h.sep j i e f b (Ne.symm h1) hk h2 h5 hb
      · have := (h.lt h2 hb).1; omega
    · rw [hb' _ _ h3] at hb2
      rcases he b hb with h5 | h5
      · exact h.sep i j e f' b (Ne.symm h3) hk h4 h5 hb2
      · have := (h.lt h4 hb2).1; omega
    · exact hij rfl
  · simp at hj
    have := h.free j ver hj
    rw [hpk j ver (by omega)]; exact this

/-! ### Sizes, kinds -/
section
variable {P : Program}
theorem run_sizeOf' {t : TypeId} {n : Nat} (h : szOf P t = some n) (w : World) : (sizeOf t).run P w = .ok n w := by
  unfold szOf at h
  cases hi : P.info? t with
  | none => simp [hi] at h
  | some i => simp [hi] at h; simp [sizeOf, typeInfo, hi, h]

theorem aggN_some {t : TypeId} {n : Nat} (h : aggN P t = some (some n)) : (∃ d, P.underlying t = some d ∧ d.isRow = true) ∧ (P.info? t).map (·.size) = some n := by
  unfold aggN at h
  split at h
  case h_1 hu hi => simp at h; exact ⟨⟨_, hu, rfl⟩, by simp [hi, h.2]⟩
  case h_2 hu hi => simp at h; exact ⟨⟨_, hu, rfl⟩, by simp [hi, h.2]⟩
  all_goals first
    | cases h; done
    | (split at h <;> cases h)

theorem aggN_pos {t : TypeId} {n : Nat} (h : aggN P t = some (some n)) : 0 < n := by
  unfold aggN at h
  split at h
  case h_1 hu hi => simp at h; omega
  case h_2 hu hi => simp at h; omega
  all_goals first
    | cases h; done
    | (split at h <;> cases h)

theorem aggN_none {t : TypeId} (h : aggN P t = some none) : (∃ d, P.underlying t = some d ∧ d.isRow = false) ∧ (P.info? t).map (·.size) = some 1 := by
  unfold aggN at h
  split at h
  case h_1 => simp at h
  case h_2 => simp at h
  all_goals first
    | cases h; done
    | (rename_i hu hi
       split at h
       · rename_i h1; exact ⟨⟨_, hu, rfl⟩, by simp [hi, h1]⟩
       · cases h)

theorem aggN_size {t : TypeId} {n : Option Nat} (h : aggN P t = some n) : szOf P t = some (n.getD 1) := by
  cases n with
  | none => exact (aggN_none h).2
  | some n => exact (aggN_some h).2

theorem run_isAgg' {t : TypeId} {n : Option Nat} (h : aggN P t = some n) (w : World) : (isAgg t).run P w = .ok n.isSome w := by
  cases n with
  | none =>
    obtain ⟨⟨d, hu, hd⟩, _⟩ := aggN_none h
    unfold isAgg
    rw [Sem.run_bind, run_underlying hu w]
    cases d <;> simp_all
  | some n =>
    obtain ⟨⟨d, hu, hd⟩, _⟩ := aggN_some h
    unfold isAgg
    rw [Sem.run_bind, run_underlying hu w]
    cases d <;> simp_all

/-- A load, of one cell or of many. -/
theorem run_load_one {t : TypeId} (h : aggN P t = some none) {w : World} {b o : Nat} {v : Value} (hc : w.cell? ⟨b, o, none⟩ = some v) : (Instr.loadAt t (.pointer (some ⟨b, o, none⟩))).run P w = .ok v w := by
  simp [Instr.loadAt, Instr.sureAddr, loadVar, Sem.run_bind, run_isAgg' h, load, Sem.run, hc]

theorem run_load_many {t : TypeId} {n : Nat} (h : aggN P t = some (some n)) {w : World} {b o : Nat} {cs : List Value} (hn : cs.length = n) (hc : w.rangeAt b o cs) :
    (Instr.loadAt t (.pointer (some ⟨b, o, none⟩))).run P w = .ok (.agg cs.toArray) w := by
  obtain ⟨⟨d, hu, hd⟩, hs⟩ := aggN_some h
  exact run_loadAt_mid w b o t cs d hc hu hd (by rw [hs, hn])

theorem cell_of_heap {w : World} {b o : Nat} {cs : Array Value} {T fz} (h : w.heap[b]? = some (.cells cs T fz)) : w.cell? ⟨b, o, none⟩ = cs[o]? := by simp [World.cell?, h]

/-- What a part of known cells is, read where they lie. -/
theorem run_load_part {t : TypeId} {n : Option Nat} (h : aggN P t = some n) {K : Kn} {pl : Pl} {w : World} {b o off : Nat} {l : List D} {cs : List Value} {d : D} (hl : RepL K pl l cs) (h1 : ∀ c ∈ cs, c.oneCell' = true)
    (hc : w.rangeAt b o cs) (hd : partD l off n = some d) : ∃ v, (Instr.loadAt t (.pointer (some ⟨b, o + off, none⟩))).run P w = .ok v w ∧ Rep K pl d v := by
  cases n with
  | none =>
    simp only [partD, nth_eq] at hd
    obtain ⟨v, hv, hr⟩ := hl.get off hd
    exact ⟨v, run_load_one h (hc off v hv), hr⟩
  | some n =>
    simp only [partD] at hd
    split at hd
    · rename_i r hr
      cases hd
      rw [dropN_eq] at hr
      obtain ⟨h2, rfl⟩ := takeN_eq _ _ _ hr
      have h3 := (hl.drop off).take n
      have hlen := hl.length
      refine ⟨.agg ((cs.drop off).take n).toArray, run_load_many h (by simp at h2 ⊢; omega) (fun j v hv => ?_), ?_⟩
      · rw [List.getElem?_take] at hv
        split at hv
        · rw [List.getElem?_drop] at hv
          have := hc (off + j) v hv
          rwa [← Nat.add_assoc] at this
        · cases hv
      · simp only [Rep]
        exact ⟨_, rfl, h3, fun c hcm => h1 c (List.mem_of_mem_drop (List.mem_of_mem_take hcm))⟩
    · cases hd

theorem sized_get {sz : Nat} : ∀ {vs : List Value} (i : Nat) {v : Value}, sized sz vs → vs[i]? = some v → v.cells.toList <+: (flat vs).drop (i * sz)
  | [], _, _, _, h => by simp at h
  | u :: vs, 0, v, h, hv => by
    simp at hv; subst hv
    simp [flat]
  | u :: vs, i + 1, v, h, hv => by
    simp at hv
    have h1 : u.cells.toList.length = sz := by simpa using (h u (by simp)).1
    have := sized_get i (vs := vs) (fun x hx => h x (by simp [hx])) hv
    simp only [flat, List.flatMap_cons] at this ⊢
    rw [List.drop_append, show (i + 1) * sz - u.cells.toList.length = i * sz by rw [h1, Nat.add_mul]; omega, List.drop_eq_nil_of_le (by rw [h1, Nat.add_mul]; omega)]
    simpa using this

theorem range_of_prefix {w : World} {b o : Nat} {cs : Array Value} {T fz} {l : List Value} (h : w.heap[b]? = some (.cells cs T fz)) (hp : l <+: cs.toList.drop o) : w.rangeAt b o l := fun j v hv => by
  rw [cell_of_heap h]
  obtain ⟨r, hr⟩ := hp
  have : (cs.toList.drop o)[j]? = some v := by rw [← hr, List.getElem?_append_left (List.getElem?_eq_some_iff.1 hv).1]; exact hv
  rw [List.getElem?_drop] at this
  simpa using this

/-- A row's part, read where the rows lie. -/
theorem run_load_row {t : TypeId} {n : Option Nat} (h : aggN P t = some n) {K : Kn} {pl pl' : Pl} {w : World} {b o i sz off : Nat} {l : List D} {vs : List Value} {d d' : D} (hl : RepL K pl l vs) (hsz : sized sz vs)
    (hc : w.rangeAt b o (flat vs)) (hd : l[i]? = some d) (hp : partOf d off n = some d') (hpl : PLe pl pl') : ∃ v, (Instr.loadAt t (.pointer (some ⟨b, o + i * sz + off, none⟩))).run P w = .ok v w ∧ Rep K pl' d' v := by
  obtain ⟨v, hv, hr⟩ := hl.get i hd
  have hpre := sized_get i hsz hv
  have hc' : w.rangeAt b (o + i * sz) v.cells.toList := fun j u hu => by
    obtain ⟨r, hr⟩ := hpre
    have h2 : ((flat vs).drop (i * sz))[j]? = some u := by rw [← hr, List.getElem?_append_left (List.getElem?_eq_some_iff.1 hu).1]; exact hu
    rw [List.getElem?_drop] at h2
    have := hc _ u h2
    rwa [← Nat.add_assoc] at this
  have h1 := (hsz v (List.mem_of_getElem? hv)).2
  suffices ∃ v, (Instr.loadAt t (.pointer (some ⟨b, o + i * sz + off, none⟩))).run P w = .ok v w ∧ Rep K pl d' v by
    obtain ⟨v, h1, h2⟩ := this
    exact ⟨v, h1, Rep.mono (KLe.refl _) hpl _ _ h2⟩
  unfold partOf at hp
  split at hp
  · simp only [Rep] at hr
    obtain ⟨cs, rfl, h3, h4⟩ := hr
    simp only [Value.cells] at hc'
    exact run_load_part h h3 h4 hc' hp
  · split at hp
    · rename_i h6 h5
      cases hp
      obtain ⟨h7, h8⟩ := hr.one h5
      rw [h7] at hc'
      exact ⟨v, run_load_one h (hc' 0 v (by simp)), hr⟩
    · cases hp
end
end Go.AM
