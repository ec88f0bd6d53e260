import Derived.Test.YtoaialdcgmkbgaaGreatRA30

set_option linter.all false
namespace Go.AM
open Go Go.Proofs
theorem Rt.next {n0 : Nat} {bx : List Ent} {k ver sz : Nat} {e : TypeId} (hk : bx[k]? = some (.arr e sz ver [])) :
    Rt n0 bx (.own k ver) (.own k (ver + 1)) (bx.set k (.arr e sz (ver + 1) [])) := fun F K pl w v _ hI hr => by
  simp only [Rep] at hr
  obtain ⟨hv, a, n, c, rfl⟩ := hr
  obtain ⟨v0, vs, h1, h2, h3, h4, h5, h6, h7⟩ := hI.tab.ok k _ hk
  rw [hv] at h1
  injection h1 with h1
  subst h1
  refine ⟨K, qq pl k (ver + 1) (.slice a n c), hI.upd hk (zn (h6 _ (by omega))) (fun k' ver' hk' => qa (.inl hk')) (fun b hb => ?_) (Chg.refl _ _) ?_, ?_⟩
  · refine .inl ?_
    simp only [ku, kC, hv] at hb ⊢
    exact hb
  · refine ⟨_, vs, kC _ _ _ _, h2, h3, h4, h5, fun ver' hlt => ?_, nofun⟩
    rw [qa (.inr (by omega))]
    exact h6 _ (by omega)
  · simp only [Rep]
    exact ⟨kC _ _ _ _, a, n, c, rfl⟩
end Go.AM

