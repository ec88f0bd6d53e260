import Derived.Test.YtoaialdcgmkbgaaGreatRU1

set_option linter.all false
namespace Go.AM
def kE4 (P : Int -> Int -> Prop) : Prop := ∃ out, Jy out /\ ∀ x y, qL out x y ↔ P x y
open Classical in
noncomputable def reg (P : Int -> Int -> Prop) : List Rc := if h : kE4 P then h.choose else []
theorem Zg {P : Int -> Int -> Prop} (h : kE4 P) : Jy (reg P) /\ ∀ x y, qL (reg P) x y ↔ P x y := by
 unfold reg
 rw [dif_pos h]
 exact h.choose_spec
theorem jp7 {P : Int -> Int -> Prop} {out : List Rc} (hc : Jy out) (hp : ∀ x y, qL out x y ↔ P x y) : reg P = out := by
 have h : kE4 P := ⟨out, hc, hp⟩
 obtain ⟨h1, h2⟩ := Zg h
 exact kB9 h1 hc fun x y => (h2 x y).trans (hp x y).symm
theorem KU {P Q : Int -> Int -> Prop} (h : ∀ x y, P x y ↔ Q x y) : reg P = reg Q := by
 have e : P = Q := funext fun x => funext fun y => propext (h x y)
 rw [e]
def Ups : List Int -> Prop
 | [] => True
 | [_] => True
 | a :: b :: l => a < b /\ Ups (b :: l)
theorem Ups.tail {a : Int} {l : List Int} (h : Ups (a :: l)) : Ups l /\ ∀ b ∈ l, a < b := by
 induction l generalizing a with
 | nil => exact ⟨trivial, by simp⟩
 | cons c l ih =>
   obtain ⟨h1, h2⟩ := h
   refine ⟨h2, fun b hb => ?_⟩
   rcases List.mem_cons.1 hb with rfl | hb
   ·exact h1
   ·have := (ih h2).2 b hb; omega
theorem Ups.lt : ∀ {l : List Int} {i j : Nat} (hj : j < l.length), Ups l -> (hij : i < j) -> l[i]'(by omega) < l[j]
 | [], _, _, hj, _, _ => by simp at hj
 | a :: l, 0, j + 1, hj, h, _ => by
   simp only [List.getElem_cons_zero, List.getElem_cons_succ]
   exact h.tail.2 _ (List.getElem_mem _)
 | a :: l, i + 1, j + 1, hj, h, hij => by
   simp only [List.getElem_cons_succ]
   exact Ups.lt (by simpa using hj) h.tail.1 (by omega)
 | a :: l, i + 1, 0, _, _, hij => by omega
 | a :: l, 0, 0, _, _, hij => by omega
end Go.AM
