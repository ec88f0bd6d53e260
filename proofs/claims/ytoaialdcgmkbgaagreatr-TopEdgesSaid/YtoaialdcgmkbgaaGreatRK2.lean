import Derived.Test.YtoaialdcgmkbgaaGreatRK1

set_option linter.all false
namespace Go.AM
def runZ (w : Nat) (f g : Px) (y : Nat) (v : Int) (x : Nat) : Nat := if x < w ∧ g x y = v ∧ f x y ≠ v then runZ w f g y v (x + 1) else x
termination_by w - x
theorem YH {w : Nat} {f g : Px} {y : Nat} {v : Int} {x : Nat} (h : x < w ∧ g x y = v ∧ f x y ≠ v) : runZ w f g y v x = runZ w f g y v (x + 1) := by rw [runZ, if_pos h]
theorem Z0 {w : Nat} {f g : Px} {y : Nat} {v : Int} {x : Nat} (h : ¬ (x < w ∧ g x y = v ∧ f x y ≠ v)) : runZ w f g y v x = x := by rw [runZ, if_neg h]
theorem QY {w : Nat} {f g : Px} {y : Nat} {v : Int} : ∀ {n x : Nat}, w - x = n → x ≤ w → x ≤ runZ w f g y v x ∧ runZ w f g y v x ≤ w ∧ ∀ X : Int, x ≤ X → X < runZ w f g y v x → g X y = v ∧ f X y ≠ v := by
 intro n
 induction n with
 | zero =>
   intro x hn hx
   rw [Z0 (by omega)]
   exact ⟨Nat.le_refl _, hx, fun X h1 h2 => by omega⟩
 | succ n ih =>
   intro x hn hx
   by_cases h : x < w ∧ g x y = v ∧ f x y ≠ v
   ·rw [YH h]
    obtain ⟨h1, h2, h3⟩ := ih (x := x + 1) (by omega) (by omega)
    refine ⟨by omega, h2, fun X h4 h5 => ?_⟩
    by_cases hX : X = x
    ·subst hX; exact h.2
    ·exact h3 X (by omega) h5
   ·rw [Z0 h]
    exact ⟨Nat.le_refl _, hx, fun X h1 h2 => by omega⟩
def rowF (w : Nat) (f g : Px) (y : Nat) (x : Nat) (R : Nat → List Rc) : Nat → List Rc :=
 if x < w then
  if x < runZ w f g y (g x y) x then rowF w f g y (runZ w f g y (g x y) x) (setR R (g x y).toNat (R (g x y).toNat ++ [⟨x, y, (runZ w f g y (g x y) x : Int) - x, 1⟩]))
  else rowF w f g y (x + 1) R
 else R
termination_by w - x
theorem rowF_run {w : Nat} {f g : Px} {y x : Nat} {R : Nat → List Rc} (h : x < w) (h2 : x < runZ w f g y (g x y) x) :
  rowF w f g y x R = rowF w f g y (runZ w f g y (g x y) x) (setR R (g x y).toNat (R (g x y).toNat ++ [⟨x, y, (runZ w f g y (g x y) x : Int) - x, 1⟩])) := by
 conv => lhs; rw [rowF, if_pos h, if_pos h2]
theorem XW {w : Nat} {f g : Px} {y x : Nat} {R : Nat → List Rc} (h : x < w) (h2 : ¬ x < runZ w f g y (g x y) x) : rowF w f g y x R = rowF w f g y (x + 1) R := by
 conv => lhs; rw [rowF, if_pos h, if_neg h2]
theorem rowF_end {w : Nat} {f g : Px} {y x : Nat} {R : Nat → List Rc} (h : ¬ x < w) : rowF w f g y x R = R := by rw [rowF, if_neg h]
def allF (w h : Nat) (f g : Px) (y : Nat) (R : Nat → List Rc) : Nat → List Rc := if y < h then allF w h f g (y + 1) (rowF w f g y 0 R) else R
termination_by h - y
theorem allF_go {w h : Nat} {f g : Px} {y : Nat} {R : Nat → List Rc} (hy : y < h) : allF w h f g y R = allF w h f g (y + 1) (rowF w f g y 0 R) := by conv => lhs; rw [allF, if_pos hy]
theorem allF_end {w h : Nat} {f g : Px} {y : Nat} {R : Nat → List Rc} (hy : ¬ y < h) : allF w h f g y R = R := by rw [allF, if_neg hy]
theorem CT_skip' {w h : Nat} {f g : Px} {y x : Nat} {R : Nat → List Rc} (hc : CT w h f g y x R) (hx : x < w) (hz : ¬ x < runZ w f g y (g x y) x) : CT w h f g y (x + 1) R := by
 refine CT_skip hc ?_
 by_cases he : f x y = g x y
 ·exact he
 ·exfalso
  have h1 := YH (w := w) (f := f) (g := g) (y := y) (v := g x y) (x := x) ⟨hx, rfl, he⟩
  have := (QY (w := w) (f := f) (g := g) (y := y) (v := g x y) (x := x + 1) rfl (by omega)).1
  omega
theorem CT_run' {w h : Nat} {f g : Px} {y x : Nat} {R : Nat → List Rc} (hg : Pok g) (hc : CT w h f g y x R) (hy : y < h) (hx : x < w) (hz : x < runZ w f g y (g x y) x) :
  CT w h f g y (runZ w f g y (g x y) x) (setR R (g x y).toNat (R (g x y).toNat ++ [⟨x, y, (runZ w f g y (g x y) x : Int) - x, 1⟩])) := by
 obtain ⟨h1, h2, h3⟩ := QY (w := w) (f := f) (g := g) (y := y) (v := g x y) (x := x) rfl (by omega)
 have := hg x y
 refine CT_run hc hy hz h2 (by omega) fun X h4 h5 => ?_
 rw [show (((g x y).toNat : Nat) : Int) = g x y by omega]
 exact h3 X h4 h5
theorem CT_rowF {w h : Nat} {f g : Px} {y : Nat} (hg : Pok g) (hy : y < h) : ∀ {n x : Nat} {R : Nat → List Rc}, w - x = n → x ≤ w → CT w h f g y x R → CT w h f g y w (rowF w f g y x R) := by
 intro n
 induction n using Nat.strongRecOn with
 | _ n ih =>
   intro x R hn hx hc
   by_cases hxw : x < w
   ·by_cases hz : x < runZ w f g y (g x y) x
    ·rw [rowF_run hxw hz]
     have h2 := (QY (w := w) (f := f) (g := g) (y := y) (v := g x y) (x := x) rfl (by omega)).2.1
     exact ih _ (by omega) rfl h2 (CT_run' hg hc hy hxw hz)
    ·rw [XW hxw hz]
     exact ih _ (by omega) rfl (by omega) (CT_skip' hc hxw hz)
   ·have : x = w := by omega
    subst this
    rw [rowF_end hxw]; exact hc
theorem CT_allF {w h : Nat} {f g : Px} (hg : Pok g) : ∀ {n y : Nat} {R : Nat → List Rc}, h - y = n → y ≤ h → CT w h f g y 0 R → CT w h f g h 0 (allF w h f g y R) := by
 intro n
 induction n with
 | zero =>
   intro y R hn hy hc
   have : y = h := by omega
   subst this
   rw [allF_end (by omega)]; exact hc
 | succ n ih =>
   intro y R hn hy hc
   rw [allF_go (by omega)]
   exact ih (by omega) (by omega) (CT_row (CT_rowF hg (by omega) rfl (Nat.zero_le _) hc))
end Go.AM

