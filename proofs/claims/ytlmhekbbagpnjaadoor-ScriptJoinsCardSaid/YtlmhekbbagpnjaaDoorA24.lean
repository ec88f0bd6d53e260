/- Own memory, handed over under other numbers; rows in own maps. -/
import Derived.Test.YtlmhekbbagpnjaaDoorA23
set_option linter.all false
namespace Go.AM
open Go Go.RowKit

/-- Some entities alone are handed out, under new numbers. -/
theorem Rt.pick {bx es : List Ent} {d1 d : D} (ks : List Nat) (h1 : d1 = renD ks (sizeE bx) d) (h2 : entsN bx ks = some (renEs ks (sizeE bx) es)) (hk : okKs ks = true) : Rt 0 bx d1 d es := by
  rw [sizeE_eq] at h1 h2
  intro F K pl w v h0 hI hr
  subst h1
  obtain ⟨hel, hget⟩ := entsN_get (n := bx.length) h2
  rw [renEs_len] at hel
  have htab := hI.tab
  have hlt : ∀ k ∈ ks, k < bx.length := fun k hkm => by
    obtain ⟨j, hj, hjk⟩ := rho_idx (n := bx.length) hkm
    have hj' : j < es.length := by omega
    have := hget j _ (renEs_get' (List.getElem?_eq_getElem hj'))
    rw [hjk] at this
    exact (List.getElem?_eq_some_iff.1 this).1
  let plc : Pl := fun j ver => if j < ks.length then pl (rho ks bx.length j) ver else none
  have hplc : ∀ j ver x, pl (rho ks bx.length j) ver = some x → plc j ver = some x := fun j ver x hx => by
    by_cases hj : j < ks.length
    · simpa [plc, hj] using hx
    · rw [rho_ge (by omega), htab.free _ _ (by omega)] at hx; cases hx
  have hplj : ∀ j, j < ks.length → ∀ ver, plc j ver = pl (rho ks bx.length j) ver := fun j hj ver => by simp [plc, hj]
  have hesk : ∀ j e, es[j]? = some e → j < ks.length ∧ bx[rho ks bx.length j]? = some (renE ks bx.length e) := fun j e he =>
    ⟨by rw [← hel]; exact (List.getElem?_eq_some_iff.1 he).1, hget j _ (renEs_get' he)⟩
  have hinj : ∀ i j, rho ks bx.length i = rho ks bx.length j → i = j := fun i j hij => by
    have h3 := sg_rho (n := bx.length) (j := i) hk hlt
    rw [hij, sg_rho hk hlt] at h3; cases h3; rfl
  refine ⟨K, plc, ⟨hI.chg, hI.mod, hI.le, hI.new, ⟨fun j e he => ?_, fun i j e f b hij hi hj hb hb' => ?_, fun j ver hj => by simp [plc]; omega⟩, fun j e b he hb => ?_, by rw [h0]; exact Nat.zero_le _, fun k ver x hk' => by rw [h0] at hk'; omega, hI.glob⟩, renD_rep hplc _ _ hr⟩
  · obtain ⟨h3, h4⟩ := hesk j e he
    exact (htab.ok _ _ h4).ren (hplj j h3) hplc
  · obtain ⟨h3, h4⟩ := hesk i e hi
    obtain ⟨h5, h6⟩ := hesk j f hj
    rw [renE_blk (hplj i h3)] at hb
    rw [renE_blk (hplj j h5)] at hb'
    exact htab.sep _ _ _ _ b (fun e => hij (hinj i j e)) h4 h6 hb hb'
  · obtain ⟨h3, h4⟩ := hesk j e he
    rw [renE_blk (hplj j h3)] at hb
    exact hI.own _ _ b h4 hb

theorem getElem?_set2 {bx : List Ent} {k j : Nat} {x f : Ent} (h : (bx.set k x)[j]? = some f) : (j = k ∧ f = x) ∨ (j ≠ k ∧ bx[j]? = some f) := by
  rw [List.getElem?_set] at h
  split at h
  · rename_i e; subst e
    split at h
    · simp at h; exact .inl ⟨rfl, h.symm⟩
    · cases h
  · rename_i e; exact .inr ⟨Ne.symm e, h⟩

theorem mpV_perm {K : Kn} {pl : Pl} {ik : IntKind} {kv kv' : KV} (hp : kv.Perm kv') : ∀ vvs, RepL K pl (mpV kv) vvs → ∃ vvs', RepL K pl (mpV kv') vvs' ∧ ((kv.map fun p => Value.int ik p.1).zip vvs).Perm ((kv'.map fun p => Value.int ik p.1).zip vvs') := by
  induction hp with
  | nil => exact fun vvs h4 => ⟨vvs, h4, .refl _⟩
  | cons x _ ih =>
    intro vvs h4
    simp only [mpV, List.map_cons, RepL] at h4
    obtain ⟨v, r, rfl, q1, q2⟩ := h4
    obtain ⟨vv', q3, q4⟩ := ih r q2
    exact ⟨v :: vv', by simp only [mpV, List.map_cons, RepL]; exact ⟨_, _, rfl, q1, q3⟩, by simpa using q4⟩
  | swap x y l =>
    intro vvs h4
    simp only [mpV, List.map_cons, RepL] at h4
    obtain ⟨v, r, rfl, q1, u, r', rfl, q2, q3⟩ := h4
    exact ⟨u :: v :: r', by simp only [mpV, List.map_cons, RepL]; exact ⟨_, _, rfl, q2, _, _, rfl, q1, q3⟩, by simpa using List.Perm.swap _ _ _⟩
  | trans _ _ ih1 ih2 =>
    intro vvs h4
    obtain ⟨v1, q1, q2⟩ := ih1 vvs h4
    obtain ⟨v2, q3, q4⟩ := ih2 v1 q1
    exact ⟨v2, q3, q2.trans q4⟩

/-- An own map, in another order. -/
theorem Inv.perm {F : Fr} {K : Kn} {pl : Pl} {bx : List Ent} {w : World} (h : Inv F K pl bx w) {k : Nat} {ik : IntKind} {kv kv' : KV} (hk : bx[k]? = some (mapE ik kv)) (hp : kv.Perm kv') : Inv F K pl (bx.set k (mapE ik kv')) w := by
  have hb : ∀ b, entBlk pl k (mapE ik kv') = some b ↔ entBlk pl k (mapE ik kv) = some b := fun b => by simp [entBlk]
  refine ⟨h.chg, h.mod, h.le, h.new, ⟨fun j f hj => ?_, fun i j f f' b hij hi hj h1 h2 => ?_, fun j ver hj => h.tab.free j ver (by simpa using hj)⟩, fun j f b hj h1 => ?_, by simp; exact h.len, h.keep, h.glob⟩
  · rcases getElem?_set2 hj with ⟨rfl, rfl⟩ | ⟨_, hj⟩
    · obtain ⟨b, es, clock, h1, h2, h3, ⟨vvs, h4, h5⟩, h6, h7⟩ := (h.tab.ok _ _ hk).mo
      obtain ⟨vvs', q1, q2⟩ := mpV_perm (ik := ik) hp vvs h4
      exact EntOk.of_mo h1 h2 h3 ⟨vvs', q1, h5.trans q2⟩ h6 h7
    · exact h.tab.ok _ _ hj
  · rcases getElem?_set2 hi with ⟨e1, e2⟩ | ⟨e1, hi2⟩ <;> rcases getElem?_set2 hj with ⟨e3, e4⟩ | ⟨e3, hj2⟩
    · exact hij (e1.trans e3.symm)
    · subst e1; subst e2; exact h.tab.sep _ _ _ _ b hij hk hj2 ((hb b).1 h1) h2
    · subst e3; subst e4; exact h.tab.sep _ _ _ _ b hij hi2 hk h1 ((hb b).1 h2)
    · exact h.tab.sep _ _ _ _ b hij hi2 hj2 h1 h2
  · rcases getElem?_set2 hj with ⟨rfl, rfl⟩ | ⟨_, hj⟩
    · exact h.own _ _ b hk ((hb b).1 h1)
    · exact h.own _ _ b hj h1
theorem Rt.perm {n0 : Nat} {bx : List Ent} {d : D} {k : Nat} {ik : IntKind} {kv kv' : KV} (hk : entN bx k = some (mapE ik kv)) (hp : kv.Perm kv') : Rt n0 bx d d (setE bx k (mapE ik kv')) := fun F K pl w v h0 hI hr => by
  rw [entN_eq] at hk
  rw [setE_eq]
  exact ⟨K, pl, hI.perm hk hp, hr⟩

/-- Own rows get another entity's number. -/
theorem Inv.shift {F : Fr} {K : Kn} {pl : Pl} {bx : List Ent} {w : World} (h : Inv F K pl bx w) {i s : Nat} {e e' : TypeId} {sz sz' ver : Nat} {rows : List D} (hi : bx[i]? = some (.arr e sz ver rows)) (hs : bx[s]? = some (.arr e' sz' 0 [])) (his : i ≠ s) {v : Value} (hv : pl i ver = some v) :
    PLe pl (updPl pl s 1 v) ∧ Inv F K (updPl pl s 1 v) ((bx.set i .gone).set s (.arr e sz 1 rows)) w := by
  obtain ⟨v', vs, h1, h2, h3, h4, h5, h6⟩ := h.tab.ok i _ hi
  rw [hv] at h1; cases h1
  obtain ⟨_, _, _, _, _, _, _, g6, _⟩ := h.tab.ok s _ hs
  have hp : PLe pl (updPl pl s 1 v) := updPl_le (g6 1 (by omega))
  have hcase : ∀ j f, ((bx.set i .gone).set s (.arr e sz 1 rows))[j]? = some f → (j = s ∧ f = .arr e sz 1 rows) ∨ (j = i ∧ j ≠ s ∧ f = .gone) ∨ (j ≠ s ∧ j ≠ i ∧ bx[j]? = some f) := fun j f hj => by
    rcases getElem?_set2 hj with h | ⟨h, hj⟩
    · exact .inl h
    · rcases getElem?_set2 hj with ⟨rfl, rfl⟩ | ⟨h', hj⟩
      · exact .inr (.inl ⟨rfl, h, rfl⟩)
      · exact .inr (.inr ⟨h, h', hj⟩)
  have hbs : ∀ b, entBlk (updPl pl s 1 v) s (.arr e sz 1 rows) = some b → entBlk pl i (.arr e sz ver rows) = some b := fun b hb => by
    simpa [entBlk, updPl_self, hv] using hb
  have hbo : ∀ j f b, j ≠ s → entBlk (updPl pl s 1 v) j f = some b → entBlk pl j f = some b := fun j f b hj hb => by rw [← hb, entBlk_upd_ne hj]
  refine ⟨hp, h.chg, h.mod, h.le, h.new, ⟨fun j f hj => ?_, fun a c f f' b hac ha hc hb hb' => ?_, fun j ver' hj => ?_⟩, fun j f b hj hb => ?_, by simp; exact h.len, fun j ver' x hj hx => hp _ _ _ (h.keep j ver' x hj hx), h.glob⟩
  · rcases hcase j f hj with ⟨rfl, rfl⟩ | ⟨rfl, _, rfl⟩ | ⟨q1, q2, q3⟩
    · exact ⟨v, vs, updPl_self _ _ _ _, h2, h3, h4, h5, fun ver' hv' => by rw [updPl_ne (.inr (by omega))]; exact g6 ver' (by omega), fun e0 => absurd e0 (by omega)⟩
    · trivial
    · exact (h.tab.ok _ _ q3).move (KLe.refl _) hp (fun b hb => ⟨rfl, (h.tab.lt q3 hb).2⟩) (fun ver' => updPl_ne (.inl q1))
  · rcases hcase a f ha with ⟨rfl, rfl⟩ | ⟨rfl, _, rfl⟩ | ⟨q1, q2, q3⟩ <;> rcases hcase c f' hc with ⟨rfl, rfl⟩ | ⟨rfl, _, rfl⟩ | ⟨p1, p2, p3⟩
    · exact hac rfl
    · simp [entBlk] at hb'
    · exact h.tab.sep i c _ _ b (Ne.symm p2) hi p3 (hbs b hb) (hbo _ _ _ p1 hb')
    · simp [entBlk] at hb
    · exact hac rfl
    · simp [entBlk] at hb
    · exact h.tab.sep a i _ _ b q2 q3 hi (hbo _ _ _ q1 hb) (hbs b hb')
    · simp [entBlk] at hb'
    · exact h.tab.sep a c _ _ b hac q3 p3 (hbo _ _ _ q1 hb) (hbo _ _ _ p1 hb')
  · have hj' : bx.length ≤ j := by simpa using hj
    have : s < bx.length := (List.getElem?_eq_some_iff.1 hs).1
    rw [updPl_ne (.inl (by omega))]; exact h.tab.free _ _ hj'
  · rcases hcase j f hj with ⟨rfl, rfl⟩ | ⟨rfl, _, rfl⟩ | ⟨q1, q2, q3⟩
    · exact h.own i _ b hi (hbs b hb)
    · simp [entBlk] at hb
    · exact h.own j f b q3 (hbo _ _ _ q1 hb)

/-- Own rows alone are handed out. -/
theorem Rt.row {bx : List Ent} {k ver : Nat} {e : TypeId} {sz : Nat} {rows : List D} (hk : entN bx k = some (.arr e sz ver rows)) : Rt 0 bx (.own k ver) (.own 0 1) [.arr e sz 1 rows] := by
  rw [entN_eq] at hk
  intro F K pl w v h0 hI hr
  simp only [Rep] at hr
  obtain ⟨v', vs, h1, h2, h3, h4, h5, h6⟩ := hI.tab.ok k _ hk
  rw [hr.1] at h1; cases h1
  have hb : ∀ j f b, [Ent.arr e sz 1 rows][j]? = some f → entBlk (updPl pl0 0 1 v) j f = some b → entBlk pl k (.arr e sz ver rows) = some b := fun j f b hj hb => by
    cases j with
    | zero => simp at hj; subst hj; simpa [entBlk, updPl_self, hr.1] using hb
    | succ j => simp at hj
  refine ⟨K, updPl pl0 0 1 v, ⟨hI.chg, hI.mod, hI.le, hI.new, ⟨fun j f hj => ?_, fun i j f f' b hij hi hj => ?_, fun j ver' hj => ?_⟩, fun j f b hj h => hI.own k _ b hk (hb j f b hj h), by rw [h0]; exact Nat.zero_le _, fun j ver' x hj => by rw [h0] at hj; omega, hI.glob⟩, by simp only [Rep]; exact ⟨updPl_self _ _ _ _, hr.2⟩⟩
  · cases j with
    | zero =>
      simp at hj; subst hj
      exact ⟨v, vs, updPl_self _ _ _ _, h2, h3, h4, h5, fun ver' hv => by rw [updPl_ne (.inr (by omega))]; rfl, fun e0 => absurd e0 (by omega)⟩
    | succ j => simp at hj
  · cases i with
    | zero => cases j with
      | zero => exact absurd rfl hij
      | succ j => simp at hj
    | succ i => simp at hi
  · cases j with
    | zero => simp at hj
    | succ j => rw [updPl_ne (.inl (by omega))]; rfl

section
variable {P : Program} {gt : Nat → Option (List D)} {t k e : TypeId} {ik : IntKind}

theorem out_chain {o : Oper} {ρ : Operand → Value} {w : World} {F : Fr} {K K1 : Kn} {pl pl1 : Pl} {d : D} {bx' : List Ent} (hK : KLe K K1) (hp : PLe pl pl1) (h : ∃ v w' K' pl', OutR P o ρ w v w' ∧ KLe K1 K' ∧ PLe pl1 pl' ∧ Inv F K' pl' bx' w' ∧ Rep K' pl' d v) :
    ∃ v w' K' pl', OutR P o ρ w v w' ∧ KLe K K' ∧ PLe pl pl' ∧ Inv F K' pl' bx' w' ∧ Rep K' pl' d v := by
  obtain ⟨v, w', K', pl', h1, h2, h3, h4, h5⟩ := h
  exact ⟨v, w', K', pl', h1, hK.trans h2, hp.trans h3, h4, h5⟩

theorem entN_set_ne {bx : List Ent} {i j : Nat} {x : Ent} (h : j ≠ i) : entN (setE bx i x) j = entN bx j := entN_setE h

/-- Own rows are written into an own map, and given up. -/
theorem pr_updF {bx : List Ent} {j i : Nat} {et : TypeId} {sz ver : Nat} {rows : List D} (hu : P.underlying t = some (.map k e)) (hk : P.underlying k = some (.int ik)) {kv : KV} (hj : entN bx j = some (mapE ik kv)) (hi : entN bx i = some (.arr et sz ver rows)) (hn : NdK kv) (n : Int) :
    PrM P gt (.upd t) [.ownm j 0, .int ik n, .own i ver] bx .any (setE (setE bx i .gone) j (mapE ik (put kv n (.ls sz rows)))) := by
  have hji : j ≠ i := fun h => by rw [h, hi] at hj; cases hj
  intro F K pl w o ρ xs hF hρ hI hq hr
  obtain ⟨x, a, y, rfl, hop⟩ := upd_op hq
  obtain ⟨h1, h2, h3⟩ := repL3 hr
  have hi' := hi
  rw [entN_eq] at hi'
  obtain ⟨K1, q1, q2, q3⟩ := hI.give hi'
  simp only [Rep] at h3
  refine out_chain q1 (PLe.refl _) ?_
  have := pr_upd (P := P) (gt := gt) hu hk (bx := setE bx i .gone) (j := j) (kv := kv) (by rw [entN_set_ne hji]; exact hj) hn n (.ls sz rows)
  refine this F K1 pl w o ρ _ hF hρ (by rw [setE_eq]; exact q2) hq ?_
  simp only [List.map_cons, List.map_nil, RepL]
  exact ⟨_, _, rfl, Rep.mono q1 (PLe.refl _) _ _ h1, _, _, rfl, Rep.mono q1 (PLe.refl _) _ _ h2, _, _, rfl, Rep.mono (KLe.refl _) (PLe.zero _) _ _ (q3 _ h3.1), rfl⟩

/-- .. or put under another number. -/
theorem pr_updM {bx : List Ent} {j i s : Nat} {et et' : TypeId} {sz sz' ver : Nat} {rows : List D} (hu : P.underlying t = some (.map k e)) (hk : P.underlying k = some (.int ik)) {kv : KV} (hj : entN bx j = some (mapE ik kv)) (hi : entN bx i = some (.arr et sz ver rows)) (hs : entN bx s = some (.arr et' sz' 0 [])) (his : i ≠ s) (hn : NdK kv) (n : Int) :
    PrM P gt (.upd t) [.ownm j 0, .int ik n, .own i ver] bx .any (setE (setE (setE bx i .gone) s (.arr et sz 1 rows)) j (mapE ik (put kv n (.own s 1)))) := by
  have hji : j ≠ i := fun h => by rw [h, hi] at hj; cases hj
  have hjs : j ≠ s := fun h => by rw [h, hs] at hj; cases hj
  intro F K pl w o ρ xs hF hρ hI hq hr
  obtain ⟨x, a, y, rfl, hop⟩ := upd_op hq
  obtain ⟨h1, h2, h3⟩ := repL3 hr
  have hi' := hi
  have hs' := hs
  rw [entN_eq] at hi' hs'
  simp only [Rep] at h3
  obtain ⟨q1, q2⟩ := hI.shift hi' hs' his h3.1
  refine out_chain (KLe.refl _) q1 ?_
  have := pr_upd (P := P) (gt := gt) hu hk (bx := setE (setE bx i .gone) s (.arr et sz 1 rows)) (j := j) (kv := kv) (by rw [entN_set_ne hjs, entN_set_ne hji]; exact hj) hn n (.own s 1)
  refine this F K _ w o ρ _ hF hρ (by rw [setE_eq, setE_eq]; exact q2) hq ?_
  simp only [List.map_cons, List.map_nil, RepL]
  exact ⟨_, _, rfl, Rep.mono (KLe.refl _) q1 _ _ h1, _, _, rfl, Rep.mono (KLe.refl _) q1 _ _ h2, _, _, rfl, by simp only [Rep]; exact ⟨updPl_self _ _ _ _, h3.2⟩, rfl⟩

/-- A new map, and rows that are nil. -/
theorem Inv.addNil {F : Fr} {K : Kn} {pl : Pl} {bx : List Ent} {w : World} (hi : Inv F K pl bx w) (et : TypeId) (sz : Nat) : PLe pl (updPl pl bx.length 0 (.slice none 0 0)) ∧ Inv F K (updPl pl bx.length 0 (.slice none 0 0)) (bx ++ [.arr et sz 0 []]) w :=
  hi.add (w' := w) (.slice none 0 0) (.arr et sz 0 []) (.inl (by simp [entBlk, updPl_self, blkV])) (Chg.refl _ _) (by
    refine ⟨.slice none 0 0, [], updPl_self _ _ _ _, World.ownsRow_nil _ _ _ _, by simp [RepL], fun v hv => (by cases hv), by simp [Value.ownBlock], fun ver' hv => ?_, fun _ _ => rfl⟩
    rw [updPl_ne (.inr (by omega))]
    exact hi.tab.free _ _ (Nat.le_refl _))
theorem pr_mkmN {bx : List Ent} (et : TypeId) (sz : Nat) : PrM P gt (.mkm t) [] bx (.ownm (sizeE bx) 0) (addE (addE bx (mapE ik [])) (.arr et sz 0 [])) := by
  intro F K pl w o ρ xs hF hρ hI hq hr
  obtain ⟨v, w', K', pl', h1, h2, h3, h4, h5⟩ := pr_mkm (P := P) (gt := gt) (t := t) (ik := ik) (bx := bx) F K pl w o ρ xs hF hρ hI hq hr
  obtain ⟨q1, q2⟩ := h4.addNil et sz
  rw [addE_eq, addE_eq] 
  rw [addE_eq] at q1 q2
  exact ⟨v, w', K', _, h1, h2, h3.trans q1, q2, Rep.mono (KLe.refl _) q1 _ _ h5⟩
end
end Go.AM
