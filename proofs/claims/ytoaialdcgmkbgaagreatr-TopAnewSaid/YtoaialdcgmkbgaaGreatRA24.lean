import Derived.Test.YtoaialdcgmkbgaaGreatRA23
import Derived.Lib.AppendStr
import Derived.Shelf.SlMaps.Clone

set_option linter.all false
namespace Go.AM
open Go Go.RowKit
theorem getElem?_set2 {bx : List Ent} {k j : Nat} {x f : Ent} (h : (bx.set k x)[j]? = some f) : (j = k /\ f = x) \/ (j ≠ k /\ bx[j]? = some f) := by
 rw [List.getElem?_set] at h
 split at h
 ·rename_i e; subst e
  split at h
  ·simp at h; exact .inl ⟨rfl, h.symm⟩
  ·cases h
 ·rename_i e; exact .inr ⟨Ne.symm e, h⟩
theorem ky0 {K : Kn} {pl : Pl} {ik : IntKind} {kv kv' : KV} (hp : kv.Perm kv') : ∀ vvs, RepL K pl (kZ kv) vvs -> ∃ vvs', RepL K pl (kZ kv') vvs' /\ ((kv.map fun p => Value.int ik p.1).zip vvs).Perm ((kv'.map fun p => Value.int ik p.1).zip vvs') := by
 induction hp with
 | nil => exact fun vvs h4 => ⟨vvs, h4, .refl _⟩
 | cons x _ ih =>
   intro vvs h4
   simp only [kZ, List.map_cons, RepL] at h4
   obtain ⟨v, r, rfl, q1, q2⟩ := h4
   obtain ⟨vv', q3, q4⟩ := ih r q2
   exact ⟨v :: vv', by simp only [kZ, List.map_cons, RepL]; exact ⟨_, _, rfl, q1, q3⟩, by simpa using q4⟩
 | swap x y l =>
   intro vvs h4
   simp only [kZ, List.map_cons, RepL] at h4
   obtain ⟨v, r, rfl, q1, u, r', rfl, q2, q3⟩ := h4
   exact ⟨u :: v :: r', by simp only [kZ, List.map_cons, RepL]; exact ⟨_, _, rfl, q2, _, _, rfl, q1, q3⟩, by simpa using List.Perm.swap _ _ _⟩
 | trans _ _ ih1 ih2 =>
   intro vvs h4
   obtain ⟨v1, q1, q2⟩ := ih1 vvs h4
   obtain ⟨v2, q3, q4⟩ := ih2 v1 q1
   exact ⟨v2, q3, q2.trans q4⟩
theorem Inv.perm {F : Fr} {K : Kn} {pl : Pl} {bx : List Ent} {w : World} (h : Inv F K pl bx w) {k : Nat} {ik : IntKind} {kv kv' : KV} (hk : bx[k]? = some (zf ik kv)) (hp : kv.Perm kv') : Inv F K pl (bx.set k (zf ik kv')) w := by
 have hb : ∀ b, jW pl k (zf ik kv') = some b ↔ jW pl k (zf ik kv) = some b := fun b => by simp [jW]
 refine ⟨h.chg, h.mod, h.le, h.new, ⟨fun j f hj => ?_, fun i j f f' b hij hi hj h1 h2 => ?_, fun j ver hj => h.tab.free j ver (by simpa using hj)⟩, fun j f b hj h1 => ?_, by simp; exact h.len, h.keep, h.glob⟩
 ·rcases getElem?_set2 hj with ⟨rfl, rfl⟩ | ⟨_, hj⟩
  ·obtain ⟨b, es, clock, h1, h2, h3, ⟨vvs, h4, h5⟩, h6, h7⟩ := (h.tab.ok _ _ hk).mo
   obtain ⟨vvs', q1, q2⟩ := ky0 (ik := ik) hp vvs h4
   exact EntOk.of_mo h1 h2 h3 ⟨vvs', q1, h5.trans q2⟩ h6 h7
  ·exact h.tab.ok _ _ hj
 ·rcases getElem?_set2 hi with ⟨e1, e2⟩ | ⟨e1, hi2⟩ <;> rcases getElem?_set2 hj with ⟨e3, e4⟩ | ⟨e3, hj2⟩
  ·exact hij (e1.trans e3.symm)
  ·subst e1; subst e2; exact h.tab.sep _ _ _ _ b hij hk hj2 ((hb b).1 h1) h2
  ·subst e3; subst e4; exact h.tab.sep _ _ _ _ b hij hi2 hk h1 ((hb b).1 h2)
  ·exact h.tab.sep _ _ _ _ b hij hi2 hj2 h1 h2
 ·rcases getElem?_set2 hj with ⟨rfl, rfl⟩ | ⟨_, hj⟩
  ·exact h.own _ _ b hk ((hb b).1 h1)
  ·exact h.own _ _ b hj h1
theorem Rt.perm {n0 : Nat} {bx : List Ent} {d : D} {k : Nat} {ik : IntKind} {kv kv' : KV} (hk : jI bx k = some (zf ik kv)) (hp : kv.Perm kv') : Rt n0 bx d d (jQ bx k (zf ik kv')) := fun F K pl w v h0 hI hr => by
 rw [kG] at hk
 rw [qF]
 exact ⟨K, pl, hI.perm hk hp, hr⟩
theorem Inv.shift {F : Fr} {K : Kn} {pl : Pl} {bx : List Ent} {w : World} (h : Inv F K pl bx w) {i s : Nat} {e e' : TypeId} {sz sz' ver : Nat} {rows : List D} (hi : bx[i]? = some (.arr e sz ver rows)) (hs : bx[s]? = some (.arr e' sz' 0 [])) (his : i ≠ s) {v : Value} (hv : pl i ver = some v) :
  PLe pl (qi pl s 1 v) /\ Inv F K (qi pl s 1 v) ((bx.set i .gone).set s (.arr e sz 1 rows)) w := by
 obtain ⟨v', vs, h1, h2, h3, h4, h5, h6⟩ := h.tab.ok i _ hi
 rw [hv] at h1; cases h1
 obtain ⟨_, _, _, _, _, _, _, g6, _⟩ := h.tab.ok s _ hs
 have hp : PLe pl (qi pl s 1 v) := zX (g6 1 (by omega))
 have hcase : ∀ j f, ((bx.set i .gone).set s (.arr e sz 1 rows))[j]? = some f -> (j = s /\ f = .arr e sz 1 rows) \/ (j = i /\ j ≠ s /\ f = .gone) \/ (j ≠ s /\ j ≠ i /\ bx[j]? = some f) := fun j f hj => by
  rcases getElem?_set2 hj with h | ⟨h, hj⟩
  ·exact .inl h
  ·rcases getElem?_set2 hj with ⟨rfl, rfl⟩ | ⟨h', hj⟩
   ·exact .inr (.inl ⟨rfl, h, rfl⟩)
   ·exact .inr (.inr ⟨h, h', hj⟩)
 have hbs : ∀ b, jW (qi pl s 1 v) s (.arr e sz 1 rows) = some b -> jW pl i (.arr e sz ver rows) = some b := fun b hb => by
  simpa [jW, jY, hv] using hb
 have hbo : ∀ j f b, j ≠ s -> jW (qi pl s 1 v) j f = some b -> jW pl j f = some b := fun j f b hj hb => by rw [<- hb, vl hj]
 refine ⟨hp, h.chg, h.mod, h.le, h.new, ⟨fun j f hj => ?_, fun a c f f' b hac ha hc hb hb' => ?_, fun j ver' hj => ?_⟩, fun j f b hj hb => ?_, by simp; exact h.len, fun j ver' x hj hx => hp _ _ _ (h.keep j ver' x hj hx), h.glob⟩
 ·rcases hcase j f hj with ⟨rfl, rfl⟩ | ⟨rfl, _, rfl⟩ | ⟨q1, q2, q3⟩
  ·exact ⟨v, vs, jY _ _ _ _, h2, h3, h4, h5, fun ver' hv' => by rw [qb (.inr (by omega))]; exact g6 ver' (by omega), fun e0 => absurd e0 (by omega)⟩
  ·trivial
  ·exact (h.tab.ok _ _ q3).move (KLe.refl _) hp (fun b hb => ⟨rfl, (h.tab.lt q3 hb).2⟩) (fun ver' => qb (.inl q1))
 ·rcases hcase a f ha with ⟨rfl, rfl⟩ | ⟨rfl, _, rfl⟩ | ⟨q1, q2, q3⟩ <;> rcases hcase c f' hc with ⟨rfl, rfl⟩ | ⟨rfl, _, rfl⟩ | ⟨p1, p2, p3⟩
  ·exact hac rfl
  ·simp [jW] at hb'
  ·exact h.tab.sep i c _ _ b (Ne.symm p2) hi p3 (hbs b hb) (hbo _ _ _ p1 hb')
  ·simp [jW] at hb
  ·exact hac rfl
  ·simp [jW] at hb
  ·exact h.tab.sep a i _ _ b q2 q3 hi (hbo _ _ _ q1 hb) (hbs b hb')
  ·simp [jW] at hb'
  ·exact h.tab.sep a c _ _ b hac q3 p3 (hbo _ _ _ q1 hb) (hbo _ _ _ p1 hb')
 ·have hj' : bx.length <= j := by simpa using hj
  have : s < bx.length := (List.getElem?_eq_some_iff.1 hs).1
  rw [qb (.inl (by omega))]; exact h.tab.free _ _ hj'
 ·rcases hcase j f hj with ⟨rfl, rfl⟩ | ⟨rfl, _, rfl⟩ | ⟨q1, q2, q3⟩
  ·exact h.own i _ b hi (hbs b hb)
  ·simp [jW] at hb
  ·exact h.own j f b q3 (hbo _ _ _ q1 hb)
theorem Rt.row {bx : List Ent} {k ver : Nat} {e : TypeId} {sz : Nat} {rows : List D} (hk : jI bx k = some (.arr e sz ver rows)) : Rt 0 bx (.own k ver) (.own 0 1) [.arr e sz 1 rows] := by
 rw [kG] at hk
 intro F K pl w v h0 hI hr
 simp only [Rep] at hr
 obtain ⟨v', vs, h1, h2, h3, h4, h5, h6⟩ := hI.tab.ok k _ hk
 rw [hr.1] at h1; cases h1
 have hb : ∀ j f b, [Ent.arr e sz 1 rows][j]? = some f -> jW (qi vK 0 1 v) j f = some b -> jW pl k (.arr e sz ver rows) = some b := fun j f b hj hb => by
  cases j with
  | zero => simp at hj; subst hj; simpa [jW, jY, hr.1] using hb
  | succ j => simp at hj
 refine ⟨K, qi vK 0 1 v, ⟨hI.chg, hI.mod, hI.le, hI.new, ⟨fun j f hj => ?_, fun i j f f' b hij hi hj => ?_, fun j ver' hj => ?_⟩, fun j f b hj h => hI.own k _ b hk (hb j f b hj h), by rw [h0]; exact Nat.zero_le _, fun j ver' x hj => by rw [h0] at hj; omega, hI.glob⟩, by simp only [Rep]; exact ⟨jY _ _ _ _, hr.2⟩⟩
 ·cases j with
  | zero =>
    simp at hj; subst hj
    exact ⟨v, vs, jY _ _ _ _, h2, h3, h4, h5, fun ver' hv => by rw [qb (.inr (by omega))]; rfl, fun e0 => absurd e0 (by omega)⟩
  | succ j => simp at hj
 ·cases i with
  | zero => cases j with
    | zero => exact absurd rfl hij
    | succ j => simp at hj
  | succ i => simp at hi
 ·cases j with
  | zero => simp at hj
  | succ j => rw [qb (.inl (by omega))]; rfl
section
variable {P : Program} {gt : Nat -> Option (List D)} {t k e : TypeId} {ik : IntKind}
theorem kn7 {o : Oper} {ρ : Operand -> Value} {w : World} {F : Fr} {K K1 : Kn} {pl pl1 : Pl} {d : D} {bx' : List Ent} (hK : KLe K K1) (hp : PLe pl pl1) (h : ∃ v w' K' pl', jy4 P o ρ w v w' /\ KLe K1 K' /\ PLe pl1 pl' /\ Inv F K' pl' bx' w' /\ Rep K' pl' d v) :
  ∃ v w' K' pl', jy4 P o ρ w v w' /\ KLe K K' /\ PLe pl pl' /\ Inv F K' pl' bx' w' /\ Rep K' pl' d v := by
 obtain ⟨v, w', K', pl', h1, h2, h3, h4, h5⟩ := h
 exact ⟨v, w', K', pl', h1, hK.trans h2, hp.trans h3, h4, h5⟩
theorem jq7 {o : Oper} {ρ : Operand -> Value} {w : World} {F : Fr} {K K1 : Kn} {pl pl1 : Pl} {d : D} {bx' : List Ent} (hK : KLe K K1) (hp : PLe pl pl1) (h : (∃ v w' K' pl', jy4 P o ρ w v w' /\ KLe K1 K' /\ PLe pl1 pl' /\ Inv F K' pl' bx' w' /\ Rep K' pl' d v) \/
   ∃ l f tmps assign body, (execOp ρ o).run P w = .ok (.round l f tmps assign body) w /\ RoundIn (wr none) 0 P l f tmps assign body w fun e w' => ∃ v K' pl', e = .returned v /\ KLe K1 K' /\ PLe pl1 pl' /\ Inv F K' pl' bx' w' /\ Rep K' pl' d v) :
  (∃ v w' K' pl', jy4 P o ρ w v w' /\ KLe K K' /\ PLe pl pl' /\ Inv F K' pl' bx' w' /\ Rep K' pl' d v) \/
    ∃ l f tmps assign body, (execOp ρ o).run P w = .ok (.round l f tmps assign body) w /\ RoundIn (wr none) 0 P l f tmps assign body w fun e w' => ∃ v K' pl', e = .returned v /\ KLe K K' /\ PLe pl pl' /\ Inv F K' pl' bx' w' /\ Rep K' pl' d v := by
 rcases h with h | ⟨l, f, tmps, assign, body, h1, h2⟩
 ·exact .inl (kn7 hK hp h)
 ·refine .inr ⟨l, f, tmps, assign, body, h1, h2.mono fun e w' h => ?_⟩
  obtain ⟨v, K', pl', a1, a2, a3, a4, a5⟩ := h
  exact ⟨v, K', pl', a1, hK.trans a2, hp.trans a3, a4, a5⟩
theorem ZH {bx : List Ent} {i j : Nat} {x : Ent} (h : j ≠ i) : jI (jQ bx i x) j = jI bx j := jd2 h
theorem jI1 {bx : List Ent} {j i : Nat} {et : TypeId} {sz ver : Nat} {rows : List D} (hu : P.underlying t = some (.map k e)) (hk : P.underlying k = some (.int ik)) {kv : KV} (hj : jI bx j = some (zf ik kv)) (hi : jI bx i = some (.arr et sz ver rows)) (hn : zC kv) (n : Int) :
  PrM P gt (.upd t) [.ownm j 0, .int ik n, .own i ver] bx .any (jQ (jQ bx i .gone) j (zf ik (put kv n (.ls sz rows)))) := by
 have hji : j ≠ i := fun h => by rw [h, hi] at hj; cases hj
 intro F K pl w o ρ xs hF hρ hI hq hr
 obtain ⟨x, a, y, rfl, hop⟩ := jY1 hq
 obtain ⟨h1, h2, h3⟩ := jR3 hr
 have hi' := hi
 rw [kG] at hi'
 obtain ⟨K1, q1, q2, q3⟩ := hI.give hi'
 simp only [Rep] at h3
 refine jq7 q1 (PLe.refl _) ?_
 have := vY (P := P) (gt := gt) hu hk (bx := jQ bx i .gone) (j := j) (kv := kv) (by rw [ZH hji]; exact hj) hn n (.ls sz rows)
 refine this F K1 pl w o ρ _ hF hρ (by rw [qF]; exact q2) hq ?_
 simp only [List.map_cons, List.map_nil, RepL]
 exact ⟨_, _, rfl, Rep.mono q1 (PLe.refl _) _ _ h1, _, _, rfl, Rep.mono q1 (PLe.refl _) _ _ h2, _, _, rfl, Rep.mono (KLe.refl _) (PLe.zero _) _ _ (q3 _ h3.1), rfl⟩
theorem kH0 {bx : List Ent} {j i s : Nat} {et et' : TypeId} {sz sz' ver : Nat} {rows : List D} (hu : P.underlying t = some (.map k e)) (hk : P.underlying k = some (.int ik)) {kv : KV} (hj : jI bx j = some (zf ik kv)) (hi : jI bx i = some (.arr et sz ver rows)) (hs : jI bx s = some (.arr et' sz' 0 [])) (his : i ≠ s) (hn : zC kv) (n : Int) :
  PrM P gt (.upd t) [.ownm j 0, .int ik n, .own i ver] bx .any (jQ (jQ (jQ bx i .gone) s (.arr et sz 1 rows)) j (zf ik (put kv n (.own s 1)))) := by
 have hji : j ≠ i := fun h => by rw [h, hi] at hj; cases hj
 have hjs : j ≠ s := fun h => by rw [h, hs] at hj; cases hj
 intro F K pl w o ρ xs hF hρ hI hq hr
 obtain ⟨x, a, y, rfl, hop⟩ := jY1 hq
 obtain ⟨h1, h2, h3⟩ := jR3 hr
 have hi' := hi
 have hs' := hs
 rw [kG] at hi' hs'
 simp only [Rep] at h3
 obtain ⟨q1, q2⟩ := hI.shift hi' hs' his h3.1
 refine jq7 (KLe.refl _) q1 ?_
 have := vY (P := P) (gt := gt) hu hk (bx := jQ (jQ bx i .gone) s (.arr et sz 1 rows)) (j := j) (kv := kv) (by rw [ZH hjs, ZH hji]; exact hj) hn n (.own s 1)
 refine this F K _ w o ρ _ hF hρ (by rw [qF, qF]; exact q2) hq ?_
 simp only [List.map_cons, List.map_nil, RepL]
 exact ⟨_, _, rfl, Rep.mono (KLe.refl _) q1 _ _ h1, _, _, rfl, Rep.mono (KLe.refl _) q1 _ _ h2, _, _, rfl, by simp only [Rep]; exact ⟨jY _ _ _ _, h3.2⟩, rfl⟩
theorem Inv.addNil {F : Fr} {K : Kn} {pl : Pl} {bx : List Ent} {w : World} (hi : Inv F K pl bx w) (et : TypeId) (sz : Nat) : PLe pl (qi pl bx.length 0 (.slice none 0 0)) /\ Inv F K (qi pl bx.length 0 (.slice none 0 0)) (bx ++ [.arr et sz 0 []]) w :=
 hi.add (w' := w) (.slice none 0 0) (.arr et sz 0 []) (.inl (by simp [jW, jY, vj])) (Chg.refl _ _) (by
  refine ⟨.slice none 0 0, [], jY _ _ _ _, World.ownsRow_nil _ _ _ _, by simp [RepL], fun v hv => (by cases hv), by simp [Value.ownBlock], fun ver' hv => ?_, fun _ _ => rfl⟩
  rw [qb (.inr (by omega))]
  exact hi.tab.free _ _ (Nat.le_refl _))
theorem kH1 {bx : List Ent} (et : TypeId) (sz : Nat) : PrM P gt (.mkm t) [] bx (.ownm (jD bx) 0) (jX (jX bx (zf ik [])) (.arr et sz 0 [])) := by
 intro F K pl w o ρ xs hF hρ hI hq hr
 rw [qT, qT]
 rcases Xh (P := P) (gt := gt) (t := t) (ik := ik) (bx := bx) F K pl w o ρ xs hF hρ hI hq hr with ⟨v, w', K', pl', h1, h2, h3, h4, h5⟩ | ⟨l, f, tmps, assign, body, h1, h2⟩
 ·rw [qT] at h4
  obtain ⟨q1, q2⟩ := h4.addNil et sz
  exact .inl ⟨v, w', K', _, h1, h2, h3.trans q1, q2, Rep.mono (KLe.refl _) q1 _ _ h5⟩
 ·refine .inr ⟨l, f, tmps, assign, body, h1, h2.mono fun e w' h => ?_⟩
  obtain ⟨v, K', pl', a1, a2, a3, a4, a5⟩ := h
  rw [qT] at a4
  obtain ⟨q1, q2⟩ := a4.addNil et sz
  exact ⟨v, K', _, a1, a2, a3.trans q1, q2, Rep.mono (KLe.refl _) q1 _ _ a5⟩
end

section
variable {P : Program} {gt : Nat -> Option (List D)} {t k e : TypeId} {ik : IntKind}
end

section
variable {P : Program} {gt : Nat -> Option (List D)} {t u k e : TypeId} {ik : IntKind}
theorem kQ4 {ds : List D} {bx bx' : List Ent} {d : D} (h : PrM P gt (.upd t) ds bx d bx') : PrM P gt (.ins t) ds bx d bx' := by
 intro F K pl w o ρ xs hF hρ hI hq hr
 have hop : ∃ m k v, xs = [m, k, v] /\ o.op = .insert t m k v := by
  match xs, hq with
  | [m, k, v], h => simp [Pr.op] at h; exact ⟨m, k, v, rfl, h.symm⟩
  | [], h => simp [Pr.op] at h
  | [_], h => simp [Pr.op] at h
  | [_, _], h => simp [Pr.op] at h
  | _ :: _ :: _ :: _ :: _, h => simp [Pr.op] at h
 obtain ⟨m, k', v', rfl, hop⟩ := hop
 have e : (execOp ρ { o with op := .mapUpdate t m k' v' }) = execOp ρ o := by simp only [execOp, hop]
 rcases h F K pl w { o with op := .mapUpdate t m k' v' } ρ [m, k', v'] hF hρ hI rfl hr with ⟨v, w', K', pl', h1, h2⟩ | ⟨l, f, tmps, assign, body, h1, h2⟩
 ·refine .inl ⟨v, w', K', pl', ?_, h2⟩
  unfold jy4 at h1 |-
  rw [e] at h1
  exact h1
 ·rw [e] at h1
  exact .inr ⟨l, f, tmps, assign, body, h1, h2⟩
/-! ### A string's bytes, appended -/
/-! ### Own nil rows in what is laid -/
theorem nilAt {K : Kn} {pl : Pl} {z : List D} {vs : List Value} {a sz : Nat} {k : Nat} (h : yy z vs = true) (ha : z[a]? = some (.ls sz [])) (hk : pl k 0 = some (.slice none 0 0)) (hr : RepL K pl z vs) : RepL K pl (z.set a (.own k 0)) vs := by
 induction z generalizing a vs with
 | nil => simp at ha
 | cons d z ih =>
   cases vs with
   | nil => simp [yy] at h
   | cons v vs =>
     simp only [yy, Bool.and_eq_true] at h
     simp only [RepL] at hr
     obtain ⟨v', r', hv, h1, h2⟩ := hr
     cases hv
     cases a with
     | zero =>
       simp at ha; subst ha
       have : v = .slice none 0 0 := by
        have h3 := h.1
        unfold ka8 at h3
        split at h3 <;> first | rfl | (simp_all; done)
       subst this
       simp only [List.set_cons_zero, RepL, Rep]
       exact ⟨_, _, rfl, ⟨hk, none, 0, 0, rfl⟩, h2⟩
     | succ a =>
       simp only [List.set_cons_succ, RepL]
       exact ⟨_, _, rfl, h1, ih h.2 (by simpa using ha) h2⟩
theorem kv7 {bx : List Ent} {z : List D} {a sz : Nat} (e : TypeId) (hz : xB P t = some z) (ha : z[a]? = some (.ls sz [])) : PrM P gt (.alc t) [] bx (.box (jD bx + 1) 0) (jX (jX bx (.arr e sz 0 [])) (.cells (z.set a (.own (jD bx) 0)))) := by
 refine PrM.of ?_
 intro F K pl w o ρ xs hF hρ hI hq hr
 have hop : xs = [] /\ o.op = .alloc t := by
  match xs, hq with
  | [], h => simp [Pr.op] at h; exact ⟨rfl, h.symm⟩
  | _ :: _, h => simp [Pr.op] at h
 obtain ⟨rfl, hop⟩ := hop
 rw [kK, qT, qT]
 obtain ⟨v, h1, h2, _⟩ := x6 hz w
 obtain ⟨q1, q2⟩ := hI.addNil e sz
 obtain ⟨h3, h4⟩ := vO K (qi pl bx.length 0 (.slice none 0 0)) h2
 have h5 := nilAt (k := bx.length) h2 ha (jY _ _ _ _) h3
 obtain ⟨g1, g2, g3⟩ := q2.newVar t h5 h4
 refine ⟨.pointer (some ⟨w.heap.size, 0, none⟩), _, K, _, .inl ?_, KLe.refl _, q1.trans g1, g2, by simpa using g3⟩
 simp only [execOp, hop]
 simp [Instr.alloc, h1, yQ]
end

theorem jZ8 {P : Program} {gt : Nat -> Option (List D)} {f : Nat} {ik : IntKind} {kv : KV} (hok : jI9 P f)
  (hc : ∀ (b : Nat) (es : Array MapEntry) (clock : Nat) (w : World), w.heap[b]? = some (.map es clock) -> Calls P f #[.map (some b)] w fun e w' => e = .returned (.map (some w.heap.size)) /\ w' = w.alloc (.map es clock)) (hne : kv ≠ []) :
  SpM P gt f [.mp (qI ik kv) (kZ kv)] [] (.ownm 0 0) [zf ik kv] := by
 refine ⟨hok, fun K pl w vs hmod hglob htab hrep => ?_⟩
 obtain ⟨v, hv, h1⟩ : ∃ v, vs = #[v] /\ Rep K pl (.mp (qI ik kv) (kZ kv)) v := by
  simp only [RepL] at hrep
  obtain ⟨v, l, h1, h2, rfl⟩ := hrep
  exact ⟨v, by rw [<- Array.toArray_toList (xs := vs), h1], h2⟩
 subst hv
 simp only [Rep] at h1
 rcases h1 with ⟨_, h2, _⟩ | ⟨b, kvs, vvs, h1, h2, h3, h4, es, clock, h5, h6, h7, h8⟩
 ·exact absurd (by simpa [qI] using h2) hne
 subst h1
 have hkv := YE h2
 subst hkv
 refine (hc b es clock w (hmod _ _ h5)).mono fun e w' ⟨he, hw⟩ => ?_
 subst hw
 have hI := Inv.start hmod hglob htab
 have hadd := hI.add (w' := w.alloc (.map es clock)) (.map (some w.heap.size)) (zf ik kv) (.inr (zP (jY _ _ _ _))) (Chg.alloc w _)
  (EntOk.of_mo (es := es) (clock := clock) (jY _ _ _ _) hI.fresh (vh w _) ⟨vvs, RepL.mono (KLe.refl _) (PLe.zero _) _ _ h3, h6⟩ h7 h8)
 exact ⟨_, K, _, he, hadd.2, by simp only [Rep]; exact ⟨jY _ _ _ _, _, rfl⟩⟩
end Go.AM
