import Derived.Test.YtoaialdcgmkbgaaGreatRA23
import Derived.Lib.AppendStr
import Derived.Shelf.SlMaps.Clone

set_option linter.all false
namespace Go.AM
open Go Go.RowKit
theorem getElem?_set2 {bx : List Ent} {k j : Nat} {x f : Ent} (h : (bx.set k x)[j]? = some f) : (j = k ∧ f = x) ∨ (j ≠ k ∧ bx[j]? = some f) := by
 rw [List.getElem?_set] at h
 split at h
 ·rename_i e; subst e
  split at h
  ·simp at h; exact .inl ⟨rfl, h.symm⟩
  ·cases h
 ·rename_i e; exact .inr ⟨Ne.symm e, h⟩
theorem jS1 {K : Kn} {pl : Pl} {ik : IntKind} {kv kv' : KV} (hp : kv.Perm kv') : ∀ vvs, RepL K pl (mpV kv) vvs -> ∃ vvs', RepL K pl (mpV kv') vvs' /\ ((kv.map fun p => Value.int ik p.1).zip vvs).Perm ((kv'.map fun p => Value.int ik p.1).zip vvs') := by
 induction hp with
 | nil => exact fun vvs h4 => ⟨vvs, h4, .refl _⟩
 | cons x _ ih =>
   intro vvs h4
   simp only [mpV, List.map_cons, RepL] at h4
   obtain ⟨v, r, rfl, q1, q2⟩ := h4
   obtain ⟨vv', q3, q4⟩ := ih r q2
   exact ⟨v :: vv', by simp only [mpV, List.map_cons, RepL]; exact ⟨_, _, rfl, q1, q3⟩, by simpa using q4⟩
 | swap x y l =>
   intro vvs h4
   simp only [mpV, List.map_cons, RepL] at h4
   obtain ⟨v, r, rfl, q1, u, r', rfl, q2, q3⟩ := h4
   exact ⟨u :: v :: r', by simp only [mpV, List.map_cons, RepL]; exact ⟨_, _, rfl, q2, _, _, rfl, q1, q3⟩, by simpa using List.Perm.swap _ _ _⟩
 | trans _ _ ih1 ih2 =>
   intro vvs h4
   obtain ⟨v1, q1, q2⟩ := ih1 vvs h4
   obtain ⟨v2, q3, q4⟩ := ih2 v1 q1
   exact ⟨v2, q3, q2.trans q4⟩
theorem Inv.perm {F : Fr} {K : Kn} {pl : Pl} {bx : List Ent} {w : World} (h : Inv F K pl bx w) {k : Nat} {ik : IntKind} {kv kv' : KV} (hk : bx[k]? = some (mapE ik kv)) (hp : kv.Perm kv') : Inv F K pl (bx.set k (mapE ik kv')) w := by
 have hb : ∀ b, kr pl k (mapE ik kv') = some b ↔ kr pl k (mapE ik kv) = some b := fun b => by simp [kr]
 refine ⟨h.chg, h.mod, h.le, h.new, ⟨fun j f hj => ?_, fun i j f f' b hij hi hj h1 h2 => ?_, fun j ver hj => h.tab.free j ver (by simpa using hj)⟩, fun j f b hj h1 => ?_, by simp; exact h.len, h.keep, h.glob⟩
 ·rcases getElem?_set2 hj with ⟨rfl, rfl⟩ | ⟨_, hj⟩
  ·obtain ⟨b, es, clock, h1, h2, h3, ⟨vvs, h4, h5⟩, h6, h7⟩ := (h.tab.ok _ _ hk).mo
   obtain ⟨vvs', q1, q2⟩ := jS1 (ik := ik) hp vvs h4
   exact EntOk.of_mo h1 h2 h3 ⟨vvs', q1, h5.trans q2⟩ h6 h7
  ·exact h.tab.ok _ _ hj
 ·rcases getElem?_set2 hi with ⟨e1, e2⟩ | ⟨e1, hi2⟩ <;> rcases getElem?_set2 hj with ⟨e3, e4⟩ | ⟨e3, hj2⟩
  ·exact hij (e1.trans e3.symm)
  ·subst e1; subst e2; exact h.tab.sep _ _ _ _ b hij hk hj2 ((hb b).1 h1) h2
  ·subst e3; subst e4; exact h.tab.sep _ _ _ _ b hij hi2 hk h1 ((hb b).1 h2)
  ·exact h.tab.sep _ _ _ _ b hij hi2 hj2 h1 h2
 ·rcases getElem?_set2 hj with ⟨rfl, rfl⟩ | ⟨_, hj⟩
  ·exact h.own _ _ b hk ((hb b).1 h1)
  ·exact h.own _ _ b hj h1
theorem Rt.perm {n0 : Nat} {bx : List Ent} {d : D} {k : Nat} {ik : IntKind} {kv kv' : KV} (hk : entN bx k = some (mapE ik kv)) (hp : kv.Perm kv') : Rt n0 bx d d (setE bx k (mapE ik kv')) := fun F K pl w v h0 hI hr => by
 rw [kD] at hk
 rw [qo]
 exact ⟨K, pl, hI.perm hk hp, hr⟩
theorem Inv.shift {F : Fr} {K : Kn} {pl : Pl} {bx : List Ent} {w : World} (h : Inv F K pl bx w) {i s : Nat} {e e' : TypeId} {sz sz' ver : Nat} {rows : List D} (hi : bx[i]? = some (.arr e sz ver rows)) (hs : bx[s]? = some (.arr e' sz' 0 [])) (his : i ≠ s) {v : Value} (hv : pl i ver = some v) :
  PLe pl (kY pl s 1 v) /\ Inv F K (kY pl s 1 v) ((bx.set i .gone).set s (.arr e sz 1 rows)) w := by
 obtain ⟨v', vs, h1, h2, h3, h4, h5, h6⟩ := h.tab.ok i _ hi
 rw [hv] at h1; cases h1
 obtain ⟨_, _, _, _, _, _, _, g6, _⟩ := h.tab.ok s _ hs
 have hp : PLe pl (kY pl s 1 v) := zm (g6 1 (by omega))
 have hcase : ∀ j f, ((bx.set i .gone).set s (.arr e sz 1 rows))[j]? = some f -> (j = s /\ f = .arr e sz 1 rows) \/ (j = i /\ j ≠ s /\ f = .gone) \/ (j ≠ s /\ j ≠ i /\ bx[j]? = some f) := fun j f hj => by
  rcases getElem?_set2 hj with h | ⟨h, hj⟩
  ·exact .inl h
  ·rcases getElem?_set2 hj with ⟨rfl, rfl⟩ | ⟨h', hj⟩
   ·exact .inr (.inl ⟨rfl, h, rfl⟩)
   ·exact .inr (.inr ⟨h, h', hj⟩)
 have hbs : ∀ b, kr (kY pl s 1 v) s (.arr e sz 1 rows) = some b -> kr pl i (.arr e sz ver rows) = some b := fun b hb => by
  simpa [kr, kt, hv] using hb
 have hbo : ∀ j f b, j ≠ s -> kr (kY pl s 1 v) j f = some b -> kr pl j f = some b := fun j f b hj hb => by rw [<- hb, zz hj]
 refine ⟨hp, h.chg, h.mod, h.le, h.new, ⟨fun j f hj => ?_, fun a c f f' b hac ha hc hb hb' => ?_, fun j ver' hj => ?_⟩, fun j f b hj hb => ?_, by simp; exact h.len, fun j ver' x hj hx => hp _ _ _ (h.keep j ver' x hj hx), h.glob⟩
 ·rcases hcase j f hj with ⟨rfl, rfl⟩ | ⟨rfl, _, rfl⟩ | ⟨q1, q2, q3⟩
  ·exact ⟨v, vs, kt _ _ _ _, h2, h3, h4, h5, fun ver' hv' => by rw [kR (.inr (by omega))]; exact g6 ver' (by omega), fun e0 => absurd e0 (by omega)⟩
  ·trivial
  ·exact (h.tab.ok _ _ q3).move (KLe.refl _) hp (fun b hb => ⟨rfl, (h.tab.lt q3 hb).2⟩) (fun ver' => kR (.inl q1))
 ·rcases hcase a f ha with ⟨rfl, rfl⟩ | ⟨rfl, _, rfl⟩ | ⟨q1, q2, q3⟩ <;> rcases hcase c f' hc with ⟨rfl, rfl⟩ | ⟨rfl, _, rfl⟩ | ⟨p1, p2, p3⟩
  ·exact hac rfl
  ·simp [kr] at hb'
  ·exact h.tab.sep i c _ _ b (Ne.symm p2) hi p3 (hbs b hb) (hbo _ _ _ p1 hb')
  ·simp [kr] at hb
  ·exact hac rfl
  ·simp [kr] at hb
  ·exact h.tab.sep a i _ _ b q2 q3 hi (hbo _ _ _ q1 hb) (hbs b hb')
  ·simp [kr] at hb'
  ·exact h.tab.sep a c _ _ b hac q3 p3 (hbo _ _ _ q1 hb) (hbo _ _ _ p1 hb')
 ·have hj' : bx.length <= j := by simpa using hj
  have : s < bx.length := (List.getElem?_eq_some_iff.1 hs).1
  rw [kR (.inl (by omega))]; exact h.tab.free _ _ hj'
 ·rcases hcase j f hj with ⟨rfl, rfl⟩ | ⟨rfl, _, rfl⟩ | ⟨q1, q2, q3⟩
  ·exact h.own i _ b hi (hbs b hb)
  ·simp [kr] at hb
  ·exact h.own j f b q3 (hbo _ _ _ q1 hb)
theorem Rt.row {bx : List Ent} {k ver : Nat} {e : TypeId} {sz : Nat} {rows : List D} (hk : entN bx k = some (.arr e sz ver rows)) : Rt 0 bx (.own k ver) (.own 0 1) [.arr e sz 1 rows] := by
 rw [kD] at hk
 intro F K pl w v h0 hI hr
 simp only [Rep] at hr
 obtain ⟨v', vs, h1, h2, h3, h4, h5, h6⟩ := hI.tab.ok k _ hk
 rw [hr.1] at h1; cases h1
 have hb : ∀ j f b, [Ent.arr e sz 1 rows][j]? = some f -> kr (kY pl0 0 1 v) j f = some b -> kr pl k (.arr e sz ver rows) = some b := fun j f b hj hb => by
  cases j with
  | zero => simp at hj; subst hj; simpa [kr, kt, hr.1] using hb
  | succ j => simp at hj
 refine ⟨K, kY pl0 0 1 v, ⟨hI.chg, hI.mod, hI.le, hI.new, ⟨fun j f hj => ?_, fun i j f f' b hij hi hj => ?_, fun j ver' hj => ?_⟩, fun j f b hj h => hI.own k _ b hk (hb j f b hj h), by rw [h0]; exact Nat.zero_le _, fun j ver' x hj => by rw [h0] at hj; omega, hI.glob⟩, by simp only [Rep]; exact ⟨kt _ _ _ _, hr.2⟩⟩
 ·cases j with
  | zero =>
    simp at hj; subst hj
    exact ⟨v, vs, kt _ _ _ _, h2, h3, h4, h5, fun ver' hv => by rw [kR (.inr (by omega))]; rfl, fun e0 => absurd e0 (by omega)⟩
  | succ j => simp at hj
 ·cases i with
  | zero => cases j with
    | zero => exact absurd rfl hij
    | succ j => simp at hj
  | succ i => simp at hi
 ·cases j with
  | zero => simp at hj
  | succ j => rw [kR (.inl (by omega))]; rfl
section
variable {P : Program} {gt : Nat -> Option (List D)} {t k e : TypeId} {ik : IntKind}
theorem jJ8 {o : Oper} {ρ : Operand -> Value} {w : World} {F : Fr} {K K1 : Kn} {pl pl1 : Pl} {d : D} {bx' : List Ent} (hK : KLe K K1) (hp : PLe pl pl1) (h : ∃ v w' K' pl', OutR P o ρ w v w' /\ KLe K1 K' /\ PLe pl1 pl' /\ Inv F K' pl' bx' w' /\ Rep K' pl' d v) :
  ∃ v w' K' pl', OutR P o ρ w v w' /\ KLe K K' /\ PLe pl pl' /\ Inv F K' pl' bx' w' /\ Rep K' pl' d v := by
 obtain ⟨v, w', K', pl', h1, h2, h3, h4, h5⟩ := h
 exact ⟨v, w', K', pl', h1, hK.trans h2, hp.trans h3, h4, h5⟩
theorem YE {o : Oper} {ρ : Operand -> Value} {w : World} {F : Fr} {K K1 : Kn} {pl pl1 : Pl} {d : D} {bx' : List Ent} (hK : KLe K K1) (hp : PLe pl pl1) (h : (∃ v w' K' pl', OutR P o ρ w v w' /\ KLe K1 K' /\ PLe pl1 pl' /\ Inv F K' pl' bx' w' /\ Rep K' pl' d v) \/
   ∃ l f tmps assign body, (execOp ρ o).run P w = .ok (.round l f tmps assign body) w /\ RoundIn (wr none) 0 P l f tmps assign body w fun e w' => ∃ v K' pl', e = .returned v /\ KLe K1 K' /\ PLe pl1 pl' /\ Inv F K' pl' bx' w' /\ Rep K' pl' d v) :
  (∃ v w' K' pl', OutR P o ρ w v w' /\ KLe K K' /\ PLe pl pl' /\ Inv F K' pl' bx' w' /\ Rep K' pl' d v) \/
    ∃ l f tmps assign body, (execOp ρ o).run P w = .ok (.round l f tmps assign body) w /\ RoundIn (wr none) 0 P l f tmps assign body w fun e w' => ∃ v K' pl', e = .returned v /\ KLe K K' /\ PLe pl pl' /\ Inv F K' pl' bx' w' /\ Rep K' pl' d v := by
 rcases h with h | ⟨l, f, tmps, assign, body, h1, h2⟩
 ·exact .inl (jJ8 hK hp h)
 ·refine .inr ⟨l, f, tmps, assign, body, h1, h2.mono fun e w' h => ?_⟩
  obtain ⟨v, K', pl', a1, a2, a3, a4, a5⟩ := h
  exact ⟨v, K', pl', a1, hK.trans a2, hp.trans a3, a4, a5⟩
theorem Kv {bx : List Ent} {i j : Nat} {x : Ent} (h : j ≠ i) : entN (setE bx i x) j = entN bx j := VU h
theorem jk6 {bx : List Ent} {j i : Nat} {et : TypeId} {sz ver : Nat} {rows : List D} (hu : P.underlying t = some (.map k e)) (hk : P.underlying k = some (.int ik)) {kv : KV} (hj : entN bx j = some (mapE ik kv)) (hi : entN bx i = some (.arr et sz ver rows)) (hn : NdK kv) (n : Int) :
  PrM P gt (.upd t) [.ownm j 0, .int ik n, .own i ver] bx .any (setE (setE bx i .gone) j (mapE ik (put kv n (.ls sz rows)))) := by
 have hji : j ≠ i := fun h => by rw [h, hi] at hj; cases hj
 intro F K pl w o ρ xs hF hρ hI hq hr
 obtain ⟨x, a, y, rfl, hop⟩ := jx5 hq
 obtain ⟨h1, h2, h3⟩ := js0 hr
 have hi' := hi
 rw [kD] at hi'
 obtain ⟨K1, q1, q2, q3⟩ := hI.give hi'
 simp only [Rep] at h3
 refine YE q1 (PLe.refl _) ?_
 have := ye (P := P) (gt := gt) hu hk (bx := setE bx i .gone) (j := j) (kv := kv) (by rw [Kv hji]; exact hj) hn n (.ls sz rows)
 refine this F K1 pl w o ρ _ hF hρ (by rw [qo]; exact q2) hq ?_
 simp only [List.map_cons, List.map_nil, RepL]
 exact ⟨_, _, rfl, Rep.mono q1 (PLe.refl _) _ _ h1, _, _, rfl, Rep.mono q1 (PLe.refl _) _ _ h2, _, _, rfl, Rep.mono (KLe.refl _) (PLe.zero _) _ _ (q3 _ h3.1), rfl⟩
theorem pr_updM {bx : List Ent} {j i s : Nat} {et et' : TypeId} {sz sz' ver : Nat} {rows : List D} (hu : P.underlying t = some (.map k e)) (hk : P.underlying k = some (.int ik)) {kv : KV} (hj : entN bx j = some (mapE ik kv)) (hi : entN bx i = some (.arr et sz ver rows)) (hs : entN bx s = some (.arr et' sz' 0 [])) (his : i ≠ s) (hn : NdK kv) (n : Int) :
  PrM P gt (.upd t) [.ownm j 0, .int ik n, .own i ver] bx .any (setE (setE (setE bx i .gone) s (.arr et sz 1 rows)) j (mapE ik (put kv n (.own s 1)))) := by
 have hji : j ≠ i := fun h => by rw [h, hi] at hj; cases hj
 have hjs : j ≠ s := fun h => by rw [h, hs] at hj; cases hj
 intro F K pl w o ρ xs hF hρ hI hq hr
 obtain ⟨x, a, y, rfl, hop⟩ := jx5 hq
 obtain ⟨h1, h2, h3⟩ := js0 hr
 have hi' := hi
 have hs' := hs
 rw [kD] at hi' hs'
 simp only [Rep] at h3
 obtain ⟨q1, q2⟩ := hI.shift hi' hs' his h3.1
 refine YE (KLe.refl _) q1 ?_
 have := ye (P := P) (gt := gt) hu hk (bx := setE (setE bx i .gone) s (.arr et sz 1 rows)) (j := j) (kv := kv) (by rw [Kv hjs, Kv hji]; exact hj) hn n (.own s 1)
 refine this F K _ w o ρ _ hF hρ (by rw [qo, qo]; exact q2) hq ?_
 simp only [List.map_cons, List.map_nil, RepL]
 exact ⟨_, _, rfl, Rep.mono (KLe.refl _) q1 _ _ h1, _, _, rfl, Rep.mono (KLe.refl _) q1 _ _ h2, _, _, rfl, by simp only [Rep]; exact ⟨kt _ _ _ _, h3.2⟩, rfl⟩
theorem Inv.addNil {F : Fr} {K : Kn} {pl : Pl} {bx : List Ent} {w : World} (hi : Inv F K pl bx w) (et : TypeId) (sz : Nat) : PLe pl (kY pl bx.length 0 (.slice none 0 0)) /\ Inv F K (kY pl bx.length 0 (.slice none 0 0)) (bx ++ [.arr et sz 0 []]) w :=
 hi.add (w' := w) (.slice none 0 0) (.arr et sz 0 []) (.inl (by simp [kr, kt, blkV])) (Chg.refl _ _) (by
  refine ⟨.slice none 0 0, [], kt _ _ _ _, World.ownsRow_nil _ _ _ _, by simp [RepL], fun v hv => (by cases hv), by simp [Value.ownBlock], fun ver' hv => ?_, fun _ _ => rfl⟩
  rw [kR (.inr (by omega))]
  exact hi.tab.free _ _ (Nat.le_refl _))
theorem pr_mkmN {bx : List Ent} (et : TypeId) (sz : Nat) : PrM P gt (.mkm t) [] bx (.ownm (jZ bx) 0) (addE (addE bx (mapE ik [])) (.arr et sz 0 [])) := by
 intro F K pl w o ρ xs hF hρ hI hq hr
 rw [qI, qI]
 rcases jk8 (P := P) (gt := gt) (t := t) (ik := ik) (bx := bx) F K pl w o ρ xs hF hρ hI hq hr with ⟨v, w', K', pl', h1, h2, h3, h4, h5⟩ | ⟨l, f, tmps, assign, body, h1, h2⟩
 ·rw [qI] at h4
  obtain ⟨q1, q2⟩ := h4.addNil et sz
  exact .inl ⟨v, w', K', _, h1, h2, h3.trans q1, q2, Rep.mono (KLe.refl _) q1 _ _ h5⟩
 ·refine .inr ⟨l, f, tmps, assign, body, h1, h2.mono fun e w' h => ?_⟩
  obtain ⟨v, K', pl', a1, a2, a3, a4, a5⟩ := h
  rw [qI] at a4
  obtain ⟨q1, q2⟩ := a4.addNil et sz
  exact ⟨v, K', _, a1, a2, a3.trans q1, q2, Rep.mono (KLe.refl _) q1 _ _ a5⟩
end

section
variable {P : Program} {gt : Nat -> Option (List D)} {t k e : TypeId} {ik : IntKind}
end

section
variable {P : Program} {gt : Nat -> Option (List D)} {t u k e : TypeId} {ik : IntKind}
theorem pr_ins {ds : List D} {bx bx' : List Ent} {d : D} (h : PrM P gt (.upd t) ds bx d bx') : PrM P gt (.ins t) ds bx d bx' := by
 intro F K pl w o ρ xs hF hρ hI hq hr
 have hop : ∃ m k v, xs = [m, k, v] /\ o.op = .insert t m k v := by
  match xs, hq with
  | [m, k, v], h => simp [Pr.op] at h; exact ⟨m, k, v, rfl, h.symm⟩
  | [], h => simp [Pr.op] at h
  | [_], h => simp [Pr.op] at h
  | [_, _], h => simp [Pr.op] at h
  | _ :: _ :: _ :: _ :: _, h => simp [Pr.op] at h
 obtain ⟨m, k', v', rfl, hop⟩ := hop
 have e : (execOp ρ { o with op := .mapUpdate t m k' v' }) = execOp ρ o := by simp only [execOp, hop]
 rcases h F K pl w { o with op := .mapUpdate t m k' v' } ρ [m, k', v'] hF hρ hI rfl hr with ⟨v, w', K', pl', h1, h2⟩ | ⟨l, f, tmps, assign, body, h1, h2⟩
 ·refine .inl ⟨v, w', K', pl', ?_, h2⟩
  unfold OutR at h1 |-
  rw [e] at h1
  exact h1
 ·rw [e] at h1
  exact .inr ⟨l, f, tmps, assign, body, h1, h2⟩
/-! ### A string's bytes, appended -/
/-! ### Own nil rows in what is laid -/
end

theorem jy4 {P : Program} {gt : Nat -> Option (List D)} {f : Nat} {ik : IntKind} {kv : KV} (hok : okFn P f)
  (hc : ∀ (b : Nat) (es : Array MapEntry) (clock : Nat) (w : World), w.heap[b]? = some (.map es clock) -> Calls P f #[.map (some b)] w fun e w' => e = .returned (.map (some w.heap.size)) /\ w' = w.alloc (.map es clock)) (hne : kv ≠ []) :
  SpM P gt f [.mp (mpK ik kv) (mpV kv)] [] (.ownm 0 0) [mapE ik kv] := by
 refine ⟨hok, fun K pl w vs hmod hglob htab hrep => ?_⟩
 obtain ⟨v, hv, h1⟩ : ∃ v, vs = #[v] /\ Rep K pl (.mp (mpK ik kv) (mpV kv)) v := by
  simp only [RepL] at hrep
  obtain ⟨v, l, h1, h2, rfl⟩ := hrep
  exact ⟨v, by rw [<- Array.toArray_toList (xs := vs), h1], h2⟩
 subst hv
 simp only [Rep] at h1
 rcases h1 with ⟨_, h2, _⟩ | ⟨b, kvs, vvs, h1, h2, h3, h4, es, clock, h5, h6, h7, h8⟩
 ·exact absurd (by simpa [mpK] using h2) hne
 subst h1
 have hkv := ZS h2
 subst hkv
 refine (hc b es clock w (hmod _ _ h5)).mono fun e w' ⟨he, hw⟩ => ?_
 subst hw
 have hI := Inv.start hmod hglob htab
 have hadd := hI.add (w' := w.alloc (.map es clock)) (.map (some w.heap.size)) (mapE ik kv) (.inr (zi (kt _ _ _ _))) (Chg.alloc w _)
  (EntOk.of_mo (es := es) (clock := clock) (kt _ _ _ _) hI.fresh (zx w _) ⟨vvs, RepL.mono (KLe.refl _) (PLe.zero _) _ _ h3, h6⟩ h7 h8)
 exact ⟨_, K, _, he, hadd.2, by simp only [Rep]; exact ⟨kt _ _ _ _, _, rfl⟩⟩
end Go.AM
