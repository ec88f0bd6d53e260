
/- Chapter 52: the least sizes. -/
import Derived.Test.YtnjmjiajbgdnlaaN4
set_option linter.all false
namespace Go.AM
open Go Go.Proofs

/-- One node's least size, of its kids'. -/
def oneS (nd : Nd) (f : Nat → Int × Int) : Int × Int :=
  turnP nd (max (ownP nd).1 (nd.kids.foldl (fun al k => al + (turnP nd (f k.toNat).1 (f k.toNat).2).1) (gapsI nd))) (nd.kids.foldl (fun ot k => max ot (turnP nd (f k.toNat).1 (f k.toNat).2).2) (ownP nd).2)
def szL : Nat → List Nd → List (Int × Int)
  | _, [] => []
  | i, nd :: r => oneS nd (fun k => (szL (i + 1) r).getD (k - (i + 1)) (0, 0)) :: szL (i + 1) r
def siz (L : List Nd) (i : Nat) : Int × Int := (szL 0 L).getD i (0, 0)
def kidsOf (L : List Nd) (i : Nat) : List Int := match L[i]? with | some nd => nd.kids | none => []
/-- Kids stand behind. -/
def Behind (L : List Nd) : Prop := ∀ (i : Nat) (nd : Nd), L[i]? = some nd → ∀ k ∈ nd.kids, (i : Int) < k ∧ k < L.length

theorem oneS_congr {nd : Nd} {f g : Nat → Int × Int} (h : ∀ k ∈ nd.kids, f k.toNat = g k.toNat) : oneS nd f = oneS nd g := by
  have h1 : ∀ (l : List Int) (a : Int), (∀ k ∈ l, f k.toNat = g k.toNat) → l.foldl (fun al k => al + (turnP nd (f k.toNat).1 (f k.toNat).2).1) a = l.foldl (fun al k => al + (turnP nd (g k.toNat).1 (g k.toNat).2).1) a := by
    intro l
    induction l with
    | nil => intro a _; rfl
    | cons x l ih => intro a hh; simp only [List.foldl_cons]; rw [hh x (by simp)]; exact ih _ fun k hk => hh k (by simp [hk])
  have h2 : ∀ (l : List Int) (a : Int), (∀ k ∈ l, f k.toNat = g k.toNat) → l.foldl (fun ot k => max ot (turnP nd (f k.toNat).1 (f k.toNat).2).2) a = l.foldl (fun ot k => max ot (turnP nd (g k.toNat).1 (g k.toNat).2).2) a := by
    intro l
    induction l with
    | nil => intro a _; rfl
    | cons x l ih => intro a hh; simp only [List.foldl_cons]; rw [hh x (by simp)]; exact ih _ fun k hk => hh k (by simp [hk])
  unfold oneS
  rw [h1 _ _ h, h2 _ _ h]

theorem szL_at {L : List Nd} (hb : Behind L) : ∀ {r : List Nd} {i : Nat}, L.drop i = r → ∀ (j : Nat) nd, r[j]? = some nd → (szL i r).getD j (0, 0) = oneS nd (fun k => (szL i r).getD (k - i) (0, 0))
  | [], _, _, j, nd, h => by simp at h
  | x :: r, i, hr, 0, nd, h => by
    simp at h; subst h
    have hi : L[i]? = some x := by
      have := List.getElem?_drop (xs := L) (i := i) (j := 0)
      rw [hr] at this; simpa using this.symm
    simp only [szL, List.getD_cons_zero]
    refine oneS_congr fun k hk => ?_
    have := (hb i x hi k hk).1
    obtain ⟨m, hm⟩ : ∃ m, k.toNat - i = m + 1 := ⟨k.toNat - i - 1, by omega⟩
    rw [hm, List.getD_cons_succ, show k.toNat - (i + 1) = m by omega]
  | x :: r, i, hr, j + 1, nd, h => by
    have hr' : L.drop (i + 1) = r := by rw [← List.drop_drop, hr]; rfl
    have := szL_at hb hr' j nd (by simpa using h)
    simp only [szL, List.getD_cons_succ]
    rw [this]
    have hnd : L[i + 1 + j]? = some nd := by
      have e := List.getElem?_drop (xs := L) (i := i + 1) (j := j)
      rw [hr'] at e; rw [← e]; simpa using h
    refine oneS_congr fun k hk => ?_
    have := (hb _ nd hnd k hk).1
    obtain ⟨m, hm⟩ : ∃ m, k.toNat - i = m + 1 := ⟨k.toNat - i - 1, by omega⟩
    rw [hm, List.getD_cons_succ, show k.toNat - (i + 1) = m by omega]
theorem siz_eq {L : List Nd} (hb : Behind L) {i : Nat} {nd : Nd} (h : L[i]? = some nd) : siz L i = oneS nd (siz L) := by
  have := szL_at hb (r := L) (i := 0) (by simp) i nd h
  unfold siz
  rw [this]
  exact oneS_congr fun k _ => by rw [Nat.sub_zero]

/-- What the closure does to the sizes. -/
def reck (L : List Nd) : Nat → Nat → List (Int × Int) → List (Int × Int)
  | 0, _, S => S
  | f + 1, i, S => ((kidsOf L i).foldl (fun S k => reck L f k.toNat S) S).set i (siz L i)
theorem fold_len {L : List Nd} {f : Nat} (ih : ∀ i S, (reck L f i S).length = S.length) : ∀ (l : List Int) (S : List (Int × Int)), (l.foldl (fun S k => reck L f k.toNat S) S).length = S.length
  | [], S => rfl
  | k :: l, S => by rw [List.foldl_cons, fold_len ih l, ih]
theorem reck_len {L : List Nd} : ∀ (f i : Nat) (S : List (Int × Int)), (reck L f i S).length = S.length
  | 0, _, _ => rfl
  | f + 1, i, S => by simp only [reck, List.length_set]; exact fold_len (reck_len f) _ _
theorem reck_self {L : List Nd} {f i : Nat} {S : List (Int × Int)} (h : i < S.length) : (reck L (f + 1) i S)[i]? = some (siz L i) := by
  simp only [reck]
  rw [List.getElem?_set_self (by rw [fold_len (reck_len f)]; exact h)]

def sD (S : List (Int × Int)) : List D := S.map fun p => .agg [.int .i64 0, .int .i64 0, .int .i64 p.1, .int .i64 p.2]
theorem sD_len (S : List (Int × Int)) : (sD S).length = S.length := by simp [sD]
theorem sD_at {S : List (Int × Int)} {i : Nat} {p : Int × Int} (h : S[i]? = some p) : (sD S)[i]? = some (.agg [.int .i64 0, .int .i64 0, .int .i64 p.1, .int .i64 p.2]) := by simp [sD, h]
def bxL (L : List Nd) (S : List (Int × Int)) : List Ent := [.cells [.ls 6 (lD L)], .cells [.fn 36 [.box 0 0, .box 1 0, .box 2 0]], .cells [.own 3 0], .arr 33 4 0 (sD S)]
/-- The numbers are small. -/
structure Small (L : List Nd) : Prop where
  len : L.length ≤ 64
  behind : Behind L
  gap : ∀ nd ∈ L, 0 ≤ nd.gap ∧ nd.gap ≤ 1000
  kids : ∀ nd ∈ L, nd.kids.length ≤ 64
  siz : ∀ i, (0 ≤ (siz L i).1 ∧ (siz L i).1 ≤ 1000000000) ∧ (0 ≤ (siz L i).2 ∧ (siz L i).2 ≤ 1000000000)
  own : ∀ nd ∈ L, (0 ≤ nd.w ∧ nd.w ≤ 1000) ∧ (0 ≤ nd.h ∧ nd.h ≤ 1000)
end Go.AM
