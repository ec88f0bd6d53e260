import Derived.Test.YtoaialdcgmkbgaaGreatRA2

set_option linter.all false
namespace Go.AM
open Classical
abbrev PS := Int -> Int -> Prop
structure Sc where
 kids : Nat -> List Nat
 on : Nat -> Bool
 sh : Nat -> PS
def xe (S : Sc) (pl : PS) : List Nat -> PS -> PS
 | [], l => l
 | j :: js, l => if S.on j = true then xe S pl js (fun x y => l x y /\ ¬ (S.sh j x y /\ pl x y)) else xe S pl js l
def Xs (S : Sc) (H : Nat -> PS -> PS -> List (Nat × PS)) (pl : PS) : List Nat -> PS -> List (Nat × PS)
 | [], _ => []
 | j :: js, l => if S.on j = true then H j (fun x y => S.sh j x y /\ pl x y) (fun x y => (S.sh j x y /\ pl x y) /\ l x y) ++ Xs S H pl js (fun x y => l x y /\ ¬ (S.sh j x y /\ pl x y)) else Xs S H pl js l
def zx (S : Sc) : Nat -> Nat -> PS -> PS -> List (Nat × PS)
 | 0, _, _, _ => []
 | n + 1, k, pl, l => Xs S (zx S n) pl (S.kids k).reverse l ++ [(k, xe S pl (S.kids k).reverse l)]
noncomputable def xt (S : Sc) (x y : Int) : List Nat -> Option Nat
 | [] => none
 | j :: js => if S.on j = true /\ S.sh j x y then some j else xt S x y js
noncomputable def jF1 (S : Sc) : Nat -> Nat -> Int -> Int -> Nat
 | 0, k, _, _ => k
 | n + 1, k, x, y => match xt S x y (S.kids k).reverse with
   | some j => jF1 S n j x y
   | none => k
def yM (S : Sc) : Nat -> Nat -> List Nat
 | 0, _ => []
 | n + 1, k => k :: (S.kids k).flatMap (yM S n)
theorem Xq {S : Sc} {pl : PS} {j : Nat} : ∀ {js : List Nat} {l : PS}, xe S pl (js ++ [j]) l = if S.on j = true then (fun x y => xe S pl js l x y /\ ¬ (S.sh j x y /\ pl x y)) else xe S pl js l
 | [], l => rfl
 | i :: js, l => by
   simp only [List.cons_append, xe]
   by_cases h : S.on i = true
   ·simp only [h, if_true]; exact Xq (js := js)
   ·simp only [h, if_false]; exact Xq (js := js)
theorem js7 {S : Sc} {H : Nat -> PS -> PS -> List (Nat × PS)} {pl : PS} {j : Nat} : ∀ {js : List Nat} {l : PS}, Xs S H pl (js ++ [j]) l = Xs S H pl js l ++ if S.on j = true then H j (fun x y => S.sh j x y /\ pl x y) (fun x y => (S.sh j x y /\ pl x y) /\ xe S pl js l x y) else []
 | [], l => by
   simp only [List.nil_append, Xs, xe]
   split <;> simp
 | i :: js, l => by
   simp only [List.cons_append, Xs, xe]
   by_cases h : S.on i = true
   ·simp only [h, if_true]; rw [js7 (js := js), List.append_assoc]
   ·simp only [h, if_false]; exact js7 (js := js)
theorem Kj {S : Sc} {pl : PS} {x y : Int} : ∀ {js : List Nat} {l : PS}, xe S pl js l x y -> l x y
 | [], _, h => h
 | j :: js, l, h => by
   simp only [xe] at h
   split at h
   ·exact (Kj h).1
   ·exact Kj h
structure Tr (S : Sc) (N : Nat) (par : Nat -> Nat) : Prop where
 le : ∀ i, par i <= i
 kid : ∀ k j, j ∈ S.kids k -> par j = k /\ k < j /\ j <= N
 nd : ∀ k, (S.kids k).Nodup
def kl1 (par : Nat -> Nat) : Nat -> Nat -> Nat
 | 0, i => i
 | m + 1, i => kl1 par m (par i)
theorem jl4 {par : Nat -> Nat} {b : Nat} : ∀ {a i : Nat}, kl1 par (a + b) i = kl1 par b (kl1 par a i)
 | 0, i => by simp [kl1]
 | a + 1, i => by
   rw [show a + 1 + b = (a + b) + 1 by omega]
   simp only [kl1]; exact jl4
theorem jF0 {par : Nat -> Nat} (h : ∀ i, par i <= i) : ∀ {m i : Nat}, kl1 par m i <= i
 | 0, i => Nat.le_refl _
 | m + 1, i => by
   simp only [kl1]; exact Nat.le_trans (jF0 h) (h i)
theorem Jf {S : Sc} {N : Nat} {par : Nat -> Nat} (T : Tr S N par) : ∀ {n k i : Nat}, i ∈ yM S n k -> ∃ m, kl1 par m i = k
 | 0, _, _, h => by simp [yM] at h
 | n + 1, k, i, h => by
   simp only [yM, List.mem_cons, List.mem_flatMap] at h
   rcases h with rfl | ⟨j, hj, hi⟩
   ·exact ⟨0, rfl⟩
   ·obtain ⟨m, hm⟩ := Jf T hi
    exact ⟨m + 1, by rw [jl4, hm]; exact (T.kid k j hj).1⟩
theorem jN1 {S : Sc} {N : Nat} {par : Nat -> Nat} (T : Tr S N par) {k j j' i m m' : Nat} (hj : j ∈ S.kids k) (hj' : j' ∈ S.kids k) (h : kl1 par m i = j) (h' : kl1 par m' i = j') : j = j' := by
 obtain ⟨a1, a2, _⟩ := T.kid k j hj
 obtain ⟨b1, b2, _⟩ := T.kid k j' hj'
 rcases Nat.lt_trichotomy m m' with hm | hm | hm
 ·exfalso
  rw [show m' = m + ((m' - m - 1) + 1) by omega, jl4, h] at h'
  simp only [kl1, a1] at h'
  have := jF0 T.le (m := m' - m - 1) (i := k)
  omega
 ·subst hm; rw [<- h, <- h']
 ·exfalso
  rw [show m = m' + ((m - m' - 1) + 1) by omega, jl4, h'] at h
  simp only [kl1, b1] at h
  have := jF0 T.le (m := m - m' - 1) (i := k)
  omega
theorem jY7 {S : Sc} {N : Nat} {par : Nat -> Nat} (T : Tr S N par) {n k i : Nat} (h : i ∈ yM S n k) : k <= i := by
 obtain ⟨m, hm⟩ := Jf T h
 have := jF0 T.le (m := m) (i := i)
 omega
theorem kf9 {S : Sc} {N : Nat} {par : Nat -> Nat} (T : Tr S N par) : ∀ {n k i : Nat}, k <= N -> i ∈ yM S n k -> i <= N
 | 0, _, _, _, h => by simp [yM] at h
 | n + 1, k, i, hk, h => by
   simp only [yM, List.mem_cons, List.mem_flatMap] at h
   rcases h with rfl | ⟨j, hj, hi⟩
   ·exact hk
   ·exact kf9 T (T.kid k j hj).2.2 hi
theorem jr1 {f : Nat -> List Nat} : ∀ {l : List Nat}, l.Nodup -> (∀ j ∈ l, (f j).Nodup) -> (∀ j ∈ l, ∀ j' ∈ l, ∀ i, i ∈ f j -> i ∈ f j' -> j = j') -> (l.flatMap f).Nodup
 | [], _, _, _ => by simp
 | j :: l, h1, h2, h3 => by
   rw [List.nodup_cons] at h1
   rw [List.flatMap_cons, List.nodup_append]
   refine ⟨h2 j (by simp), jr1 h1.2 (fun i hi => h2 i (by simp [hi])) (fun a ha b hb => h3 a (by simp [ha]) b (by simp [hb])), fun a ha b hb he => ?_⟩
   subst he
   obtain ⟨j', hj', hb⟩ := List.mem_flatMap.1 hb
   exact h1.1 (by rw [h3 j (by simp) j' (by simp [hj']) a ha hb]; exact hj')
theorem ks7 {S : Sc} {N : Nat} {par : Nat -> Nat} (T : Tr S N par) : ∀ (n k : Nat), (yM S n k).Nodup
 | 0, _ => by simp [yM]
 | n + 1, k => by
   simp only [yM, List.nodup_cons]
   refine ⟨fun h => ?_, jr1 (T.nd k) (fun j _ => ks7 T n j) fun j hj j' hj' i hi hi' => ?_⟩
   ·obtain ⟨j, hj, hi⟩ := List.mem_flatMap.1 h
    have := jY7 T hi
    have := (T.kid k j hj).2.1
    omega
   ·obtain ⟨m, hm⟩ := Jf T hi
    obtain ⟨m', hm'⟩ := Jf T hi'
    exact jN1 T hj hj' hm hm'
theorem Z8 {S : Sc} {H : Nat -> PS -> PS -> List (Nat × PS)} {pl : PS} {e : Nat × PS} : ∀ {js : List Nat} {l : PS}, e ∈ Xs S H pl js l -> ∃ j ∈ js, ∃ p q, e ∈ H j p q
 | [], _, h => by simp [Xs] at h
 | j :: js, l, h => by
   simp only [Xs] at h
   split at h
   ·rcases List.mem_append.1 h with h | h
    ·exact ⟨j, by simp, _, _, h⟩
    ·obtain ⟨i, hi, r⟩ := Z8 h
     exact ⟨i, by simp [hi], r⟩
   ·obtain ⟨i, hi, r⟩ := Z8 h
    exact ⟨i, by simp [hi], r⟩
theorem Km {S : Sc} : ∀ {n k : Nat} {pl l : PS} {e : Nat × PS}, e ∈ zx S n k pl l -> e.1 ∈ yM S n k
 | 0, _, _, _, _, h => by simp [zx] at h
 | n + 1, k, pl, l, e, h => by
   simp only [zx, List.mem_append, List.mem_singleton] at h
   simp only [yM, List.mem_cons, List.mem_flatMap]
   rcases h with h | rfl
   ·obtain ⟨j, hj, p, q, h⟩ := Z8 h
    exact .inr ⟨j, by simpa using hj, Km h⟩
   ·exact .inl rfl
theorem Jt {S : Sc} {N : Nat} {par : Nat -> Nat} (T : Tr S N par) {n k : Nat} {pl : PS} (ih : ∀ j p q, ((zx S n j p q).map (·.1)).Nodup) : ∀ {js : List Nat} {l : PS}, js.Nodup -> (∀ j ∈ js, j ∈ S.kids k) -> ((Xs S (zx S n) pl js l).map (·.1)).Nodup
 | [], _, _, _ => by simp [Xs]
 | j :: js, l, hn, hk => by
   rw [List.nodup_cons] at hn
   simp only [Xs]
   split
   ·rw [List.map_append, List.nodup_append]
    refine ⟨ih _ _ _, Jt T ih hn.2 fun i hi => hk i (by simp [hi]), fun a ha b hb he => ?_⟩
    subst he
    obtain ⟨e, he, rfl⟩ := List.mem_map.1 ha
    obtain ⟨e', he', hee⟩ := List.mem_map.1 hb
    obtain ⟨j', hj', p, q, h⟩ := Z8 he'
    obtain ⟨m, hm⟩ := Jf T (Km he)
    obtain ⟨m', hm'⟩ := Jf T (Km h)
    rw [hee] at hm'
    have := jN1 T (hk j (by simp)) (hk j' (by simp [hj'])) hm hm'
    subst this
    exact hn.1 hj'
   ·exact Jt T ih hn.2 fun i hi => hk i (by simp [hi])
theorem jL0 {S : Sc} {N : Nat} {par : Nat -> Nat} (T : Tr S N par) : ∀ (n k : Nat) (pl l : PS), ((zx S n k pl l).map (·.1)).Nodup
 | 0, _, _, _ => by simp [zx]
 | n + 1, k, pl, l => by
   simp only [zx, List.map_append, List.map_cons, List.map_nil]
   rw [List.nodup_append]
   refine ⟨Jt T (k := k) (fun j p q => jL0 T n j p q) ((List.reverse_perm _).nodup_iff.2 (T.nd k)) fun j hj => by simpa using hj, by simp, fun a ha b hb he => ?_⟩
   simp at hb
   subst hb; subst he
   obtain ⟨e, he, hee⟩ := List.mem_map.1 ha
   obtain ⟨j, hj, p, q, h⟩ := Z8 he
   have h1 := jY7 T (Km h)
   have h2 := (T.kid a j (by simpa using hj)).2.1
   omega
theorem jL1 {S : Sc} {n : Nat} {pl : PS} {x y : Int} (ih : ∀ (j : Nat) (p q : PS), (∀ x y, q x y -> p x y) -> ∀ e ∈ zx S n j p q, e.2 x y -> q x y /\ jF1 S n j x y = e.1) (hp : pl x y) :
  ∀ {js : List Nat} {l : PS}, ∀ e ∈ Xs S (zx S n) pl js l, e.2 x y -> l x y /\ ∃ j, xt S x y js = some j /\ jF1 S n j x y = e.1
 | [], _, e, h, _ => by simp [Xs] at h
 | j :: js, l, e, h, hx => by
   simp only [Xs] at h
   simp only [xt]
   by_cases ho : S.on j = true
   ·simp only [ho, if_true, List.mem_append] at h
    rcases h with h | h
    ·obtain ⟨h1, h2⟩ := ih j _ _ (fun _ _ h => h.1) e h hx
     exact ⟨h1.2, j, by rw [if_pos ⟨ho, h1.1.1⟩], h2⟩
    ·obtain ⟨h1, j', h2, h3⟩ := jL1 ih hp e h hx
     refine ⟨h1.1, j', ?_, h3⟩
     rw [if_neg fun h => h1.2 ⟨h.2, hp⟩]; exact h2
   ·simp only [ho, if_false] at h
    obtain ⟨h1, j', h2, h3⟩ := jL1 ih hp e h hx
    exact ⟨h1, j', by rw [if_neg fun h => ho h.1]; exact h2, h3⟩
theorem Z4 {S : Sc} {pl : PS} {x y : Int} (hp : pl x y) : ∀ {js : List Nat} {l : PS}, xe S pl js l x y ↔ l x y /\ xt S x y js = none
 | [], l => by simp [xe, xt]
 | j :: js, l => by
   simp only [xe, xt]
   by_cases ho : S.on j = true
   ·simp only [ho, if_true, true_and]
    rw [Z4 hp]
    by_cases hs : S.sh j x y
    ·simp [hs, hp]
    ·simp [hs]
   ·simp only [ho, if_false, false_and]
    exact Z4 hp
theorem js4 {S : Sc} {x y : Int} : ∀ (n k : Nat) (pl l : PS), (∀ x y, l x y -> pl x y) -> ∀ e ∈ zx S n k pl l, e.2 x y -> l x y /\ jF1 S n k x y = e.1
 | 0, _, _, _, _, e, h, _ => by simp [zx] at h
 | n + 1, k, pl, l, hl, e, h, hx => by
   simp only [zx, List.mem_append, List.mem_singleton] at h
   simp only [jF1]
   rcases h with h | rfl
   ·have hp : pl x y := by
     obtain ⟨js, hjs⟩ : ∃ js, (S.kids k).reverse = js := ⟨_, rfl⟩
     rw [hjs] at h
     clear hjs
     have key : ∀ (js : List Nat) (l : PS), e ∈ Xs S (zx S n) pl js l -> pl x y := fun js => by
      induction js with
      | nil => intro l h; simp [Xs] at h
      | cons j js ihj =>
        intro l h
        simp only [Xs] at h
        split at h
        ·rcases List.mem_append.1 h with h | h
         ·exact (js4 n j _ _ (fun _ _ h => h.1) e h hx).1.1.2
         ·exact ihj _ h
        ·exact ihj _ h
     exact key js l h
    obtain ⟨h1, j, h2, h3⟩ := jL1 (fun j p q hq e he hx => js4 n j p q hq e he hx) hp e h hx
    rw [h2]
    exact ⟨h1, h3⟩
   ·have h0 := Kj hx
    have h1 := (Z4 (hl _ _ h0)).1 hx
    rw [h1.2]
    exact ⟨h1.1, rfl⟩
theorem jD2 {S : Sc} {N : Nat} {par : Nat -> Nat} (T : Tr S N par) {x y : Int} : ∀ (n k : Nat) (pl l : PS), N < n + k -> k <= N -> (∀ x y, l x y -> pl x y) -> l x y -> ∃ c, (jF1 S n k x y, c) ∈ zx S n k pl l /\ c x y
 | 0, k, _, _, hn, hk, _, _ => by omega
 | n + 1, k, pl, l, hn, hk, hl, hx => by
   simp only [zx, jF1, List.mem_append, List.mem_singleton]
   have hp := hl _ _ hx
   cases hf : xt S x y (S.kids k).reverse with
   | none => exact ⟨_, .inr rfl, (Z4 hp).2 ⟨hx, hf⟩⟩
   | some j =>
     dsimp only
     have hfm : ∀ {js : List Nat}, xt S x y js = some j -> j ∈ js := fun {js} h => by
      induction js with
      | nil => simp [xt] at h
      | cons i js ih =>
        simp only [xt] at h
        split at h
        ·cases h; simp
        ·simp [ih h]
     have key : ∀ (js : List Nat) (l : PS), (∀ j ∈ js, j ∈ S.kids k) -> l x y -> xt S x y js = some j -> ∃ c, (jF1 S n j x y, c) ∈ Xs S (zx S n) pl js l /\ c x y := fun js => by
      induction js with
      | nil => intro l _ _ h; simp [xt] at h
      | cons i js ihj =>
        intro l hk' hl' h
        simp only [xt] at h
        simp only [Xs]
        by_cases ho : S.on i = true
        ·simp only [ho, if_true, List.mem_append, true_and] at h |-
         by_cases hs : S.sh i x y
         ·rw [if_pos hs] at h
          cases h
          obtain ⟨_, b1, b2⟩ := T.kid k j (hk' j (by simp))
          obtain ⟨c, h1, h2⟩ := jD2 T n j (fun x y => S.sh j x y /\ pl x y) (fun x y => (S.sh j x y /\ pl x y) /\ l x y) (by omega) b2 (fun _ _ h => h.1) ⟨⟨hs, hp⟩, hl'⟩
          exact ⟨c, .inl h1, h2⟩
         ·rw [if_neg hs] at h
          obtain ⟨c, h1, h2⟩ := ihj (fun x y => l x y /\ ¬ (S.sh i x y /\ pl x y)) (fun a ha => hk' a (by simp [ha])) ⟨hl', fun h => hs h.1⟩ h
          exact ⟨c, .inr h1, h2⟩
        ·simp only [ho, if_false, false_and] at h |-
         exact ihj l (fun a ha => hk' a (by simp [ha])) hl' h
     obtain ⟨c, h1, h2⟩ := key _ l (fun a ha => by simpa using ha) hx hf
     exact ⟨c, .inl h1, h2⟩
theorem kj4 {S : Sc} {x y : Int} : ∀ (n k : Nat) (pl l : PS), (∀ x y, l x y -> S.sh k x y) -> ∀ e ∈ zx S n k pl l, e.2 x y -> S.sh e.1 x y
 | 0, _, _, _, _, e, h, _ => by simp [zx] at h
 | n + 1, k, pl, l, hl, e, h, hx => by
   simp only [zx, List.mem_append, List.mem_singleton] at h
   rcases h with h | rfl
   ·have key : ∀ (js : List Nat) (l : PS), e ∈ Xs S (zx S n) pl js l -> S.sh e.1 x y := fun js => by
     induction js with
     | nil => intro l h; simp [Xs] at h
     | cons j js ihj =>
       intro l h
       simp only [Xs] at h
       split at h
       ·rcases List.mem_append.1 h with h | h
        ·exact kj4 n j _ _ (fun _ _ h => h.1.1) e h hx
        ·exact ihj _ h
       ·exact ihj _ h
    exact key _ _ h
   ·exact hl _ _ (Kj hx)
end Go.AM
