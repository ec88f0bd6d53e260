import Derived.Test.YtoaialdcgmkbgaaGreatRA29

set_option linter.all false
namespace Go.AM
open Go Go.Proofs
theorem Rt.next {n0 : Nat} {bx : List Ent} {k ver sz : Nat} {e : TypeId} (hk : bx[k]? = some (.arr e sz ver [])) :
  Rt n0 bx (.own k ver) (.own k (ver + 1)) (bx.set k (.arr e sz (ver + 1) [])) := fun F K pl w v _ hI hr => by
 simp only [Rep] at hr
 obtain ⟨hv, a, n, c, rfl⟩ := hr
 obtain ⟨v0, vs, h1, h2, h3, h4, h5, h6, h7⟩ := hI.tab.ok k _ hk
 rw [hv] at h1
 injection h1 with h1
 subst h1
 refine ⟨K, qi pl k (ver + 1) (.slice a n c), hI.upd hk (zX (h6 _ (by omega))) (fun k' ver' hk' => qb (.inl hk')) (fun b hb => ?_) (Chg.refl _ _) ?_, ?_⟩
 ·refine .inl ?_
  simp only [jW, jY, hv] at hb |-
  exact hb
 ·refine ⟨_, vs, jY _ _ _ _, h2, h3, h4, h5, fun ver' hlt => ?_, nofun⟩
  rw [qb (.inr (by omega))]
  exact h6 _ (by omega)
 ·simp only [Rep]
  exact ⟨jY _ _ _ _, a, n, c, rfl⟩
end Go.AM
