import Derived.Test.YtoaialdcgmkbgaaGreatRA32

set_option linter.all false
namespace Go.AM
open Go Go.RowKit
theorem Inv.regain {F : Fr} {K : Kn} {pl : Pl} {bx : List Ent} {w : World} (h : Inv F K pl bx w) {k ver sz sz' : Nat} {e e' : TypeId} {old rows : List D} {v : Value} {vs : List Value} (hk : bx[k]? = some (.arr e' sz' ver old))
  (ho : w.ownsRow 0 e sz v rows.length (flat vs)) (hr : RepL K pl0 rows vs) (hs : sized sz vs) (hb : ∀ b, v.ownBlock = some b → K b = none) (hv : ∃ a n c, v = .slice a n c)
  (hf : ∀ b, blkV v = some b → (F.S b ∨ F.w.heap.size ≤ b) ∧ ¬ Own pl bx b) :
  PLe pl (kZ pl k (ver + 1) v) ∧ Inv F K (kZ pl k (ver + 1) v) (bx.set k (.arr e sz (ver + 1) rows)) w ∧ Rep K (kZ pl k (ver + 1) v) (.own k (ver + 1)) v := by
 obtain ⟨v0, vs0, g1, g2, g3, g4, g5, g6, g7⟩ := h.tab.ok k _ hk
 have hno : pl k (ver + 1) = none := g6 _ (by omega)
 have hp : PLe pl (kZ pl k (ver + 1) v) := za hno
 have hlt := (List.getElem?_eq_some_iff.1 hk).1
 have hself : kZ pl k (ver + 1) v k (ver + 1) = some v := kD _ _ _ _
 have hcase : ∀ j f, (bx.set k (.arr e sz (ver + 1) rows))[j]? = some f → (j ≠ k ∧ bx[j]? = some f) ∨ (j = k ∧ f = .arr e sz (ver + 1) rows) := fun j f hj => by
  rw [List.getElem?_set] at hj
  split at hj
  ·rename_i hkj; subst hkj; simp [hlt] at hj; exact .inr ⟨rfl, hj.symm⟩
  ·rename_i hkj; exact .inl ⟨Ne.symm hkj, hj⟩
 have hold : ∀ j f, j ≠ k → kz (kZ pl k (ver + 1) v) j f = kz pl j f := fun j f hj => zj hj
 have hnew : ∀ b, kz (kZ pl k (ver + 1) v) k (.arr e sz (ver + 1) rows) = some b → blkV v = some b := fun b hb => by
  simp only [kz, hself, Option.bind_some] at hb; exact hb
 refine ⟨hp, ⟨h.chg, h.mod, h.le, h.new, ⟨fun j f hj => ?_, fun i j f f' b hij hi hj h1 h2 => ?_, fun j ver' hj => ?_⟩, fun j f b hj hb' => ?_, by simp; exact h.len, fun j ver' x hj hx => hp _ _ _ (h.keep j ver' x hj hx), h.glob⟩, by simp only [Rep]; exact ⟨hself, hv⟩⟩
 ·rcases hcase j f hj with ⟨h1, h2⟩ | ⟨rfl, rfl⟩
  ·exact (h.tab.ok j f h2).move (KLe.refl _) hp (fun b hb' => ⟨rfl, (h.tab.lt h2 hb').2⟩) fun ver' => kU (.inl h1)
  ·refine ⟨v, vs, hself, ho, hr, hs, hb, fun ver' h1 => ?_, fun h1 => absurd h1 (by omega)⟩
   rw [kU (.inr (by omega))]
   exact g6 _ (by omega)
 ·rcases hcase i f hi with ⟨a1, a2⟩ | ⟨rfl, rfl⟩
  ·rw [hold i f a1] at h1
   rcases hcase j f' hj with ⟨c1, c2⟩ | ⟨rfl, rfl⟩
   ·rw [hold j f' c1] at h2
    exact h.tab.sep i j f f' b hij a2 c2 h1 h2
   ·exact (hf b (hnew b h2)).2 ⟨i, f, a2, h1⟩
  ·rcases hcase j f' hj with ⟨c1, c2⟩ | ⟨rfl, rfl⟩
   ·rw [hold j f' c1] at h2
    exact (hf b (hnew b h1)).2 ⟨j, f', c2, h2⟩
   ·exact hij rfl
 ·simp at hj
  rw [kU (.inl (by omega))]
  exact h.tab.free j ver' hj
 ·rcases hcase j f hj with ⟨h1, h2⟩ | ⟨rfl, rfl⟩
  ·rw [hold j f h1] at hb'
   exact h.own j f b h2 hb'
  ·exact (hf b (hnew b hb')).1
theorem Rt.into {n0 : Nat} {bx : List Ent} {k ver v sz sz' : Nat} {e e' : TypeId} {old rows : List D} (hk : bx[k]? = some (.arr e' sz' ver old)) (h0 : n0 ≤ bx.length) (hl : lowB bx.length bx = true) :
  Rt n0 (bx ++ [.arr e sz v rows]) (.own bx.length v) (.own k (ver + 1)) (bx.set k (.arr e sz (ver + 1) rows)) := fun F K pl w x hF hI hr => by
 simp only [Rep] at hr
 obtain ⟨hx, hsl⟩ := hr
 have hN : (bx ++ [Ent.arr e sz v rows])[bx.length]? = some (.arr e sz v rows) := by simp
 obtain ⟨v0, vs, g1, g2, g3, g4, g5, g6, g7⟩ := hI.tab.ok bx.length _ hN
 rw [hx] at g1; cases g1
 have hblk : kz pl bx.length (.arr e sz v rows) = blkV x := by simp only [kz, hx, Option.bind_some]
 have hc := hI.cut (bx' := bx) (by rw [hF]; exact h0) (qK _ _) hl
 have h1 := hc.regain (k := k) (e := e) (sz := sz) (rows := rows) (v := x) hk g2 g3 g4 g5 hsl (fun b hb => by
  refine ⟨hI.own _ _ b hN (by rw [hblk]; exact hb), fun ⟨j, f, hj, hjb⟩ => ?_⟩
  have hjl := (List.getElem?_eq_some_iff.1 hj).1
  rw [yQ hjl] at hjb
  exact hI.tab.sep j bx.length f _ b (by omega) (by rw [List.getElem?_append_left hjl]; exact hj) hN hjb (by rw [hblk]; exact hb))
 exact ⟨K, _, h1.2.1, h1.2.2⟩
end Go.AM

