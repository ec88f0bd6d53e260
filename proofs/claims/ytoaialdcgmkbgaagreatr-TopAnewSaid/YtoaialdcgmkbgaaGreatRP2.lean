import Derived.Test.YtoaialdcgmkbgaaGreatRP1
import Derived.Test.YtoaialdcgmkbgaaGreatRZ5

set_option linter.all false
namespace Go.AM
theorem jC4 : ∀ {l : List Rc} {a : Int}, (∀ r ∈ l, Vr r) -> l.Pairwise (fun a b => a.x <= b.x) -> (∀ r ∈ l, a <= r.x) -> Lefts a (l.map KR)
 | [], _, _, _, _ => trivial
 | r :: l, a, hV, hs, ha => by
   obtain ⟨h1, h2⟩ := List.pairwise_cons.1 hs
   have hr := hV r (by simp)
   unfold Vr at hr
   exact ⟨⟨ha r (by simp), by simp only [KR]; omega⟩, jC4 (fun q hq => hV q (by simp [hq])) h2 h1⟩
theorem jn9 {row : List Rc} (hV : ∀ r ∈ row, Vr r) (hs : row.Pairwise fun a b => a.x <= b.x) :
  jB6 (z7 (row.map KR)) /\ ∀ x, jK5 (z7 (row.map KR)) x ↔ ∃ r ∈ row, r.x <= x /\ x < r.x + r.w := by
 have hin : ∀ (row : List Rc) x, jK5 (row.map KR) x ↔ ∃ r ∈ row, r.x <= x /\ x < r.x + r.w := fun row x => by
  unfold jK5
  constructor
  ·rintro ⟨s, hs, h⟩
   obtain ⟨r, hr, rfl⟩ := List.mem_map.1 hs
   exact ⟨r, hr, h⟩
  ·rintro ⟨r, hr, h⟩
   exact ⟨_, List.mem_map.2 ⟨r, hr, rfl⟩, h⟩
 cases row with
 | nil => exact ⟨trivial, hin []⟩
 | cons r l =>
   obtain ⟨h1, h2⟩ := List.pairwise_cons.1 hs
   have hr := hV r (by simp)
   unfold Vr at hr
   have hl : Lefts (KR r).1 (l.map KR) := jC4 (fun q hq => hV q (by simp [hq])) h2 h1
   have hlt : (KR r).1 < (KR r).2 := by simp only [KR]; omega
   refine ⟨jr6 hlt hl, fun x => ?_⟩
   rw [<- hin]
   exact jr7 hlt hl x
theorem Ye {row : List Rc} (hV : ∀ r ∈ row, Vr r) (hs : row.Pairwise fun a b => a.x <= b.x) :
  (∀ s ∈ z7 (row.map KR), (-1048576 <= s.1 /\ s.1 < s.2) /\ s.2 <= 1048576) /\ (z7 (row.map KR)).length <= 1048576 := by
 obtain ⟨h1, h2⟩ := jn9 hV hs
 have hb : ∀ s ∈ z7 (row.map KR), (-1048576 <= s.1 /\ s.1 < s.2) /\ s.2 <= 1048576 := fun s hs => by
  have h3 := ja9 hs h1
  obtain ⟨r, hr, h4, h5⟩ := (h2 s.1).1 ⟨s, hs, by omega, h3⟩
  obtain ⟨q, hq, h6, h7⟩ := (h2 (s.2 - 1)).1 ⟨s, hs, by omega, by omega⟩
  have := hV r hr
  have := hV q hq
  unfold Vr at *
  omega
 refine ⟨hb, ?_⟩
 have := jI8 (a := -1048576) (c := 1048576) h1 fun s hs => ⟨(hb s hs).1.1, (hb s hs).2⟩
 omega
/-! ### The edges -/
theorem YP : ∀ {l : List Rc} {n : Int}, n ∈ Kq l ↔ ∃ r ∈ l, n = r.y \/ n = r.y + r.h
 | [], n => by simp [Kq]
 | r :: l, n => by
   simp only [Kq, List.mem_cons, YP (l := l)]
   constructor
   ·rintro (h | h | ⟨q, hq, h⟩)
    ·exact ⟨r, .inl rfl, .inl h⟩
    ·exact ⟨r, .inl rfl, .inr h⟩
    ·exact ⟨q, .inr hq, h⟩
   ·rintro ⟨q, rfl | hq, h⟩
    ·rcases h with h | h
     ·exact .inl h
     ·exact .inr (.inl h)
    ·exact .inr (.inr ⟨q, hq, h⟩)
theorem yL {l : List Rc} {n : Int} : n ∈ k9 l ↔ ∃ r ∈ l, n = r.y \/ n = r.y + r.h := by
 unfold k9
 rw [Zw, QG, List.mem_mergeSort, YP]
theorem Kr (l : List Rc) : Ups (k9 l) := QX (jn2 _)
theorem jh6 {l : List Rc} (hV : ∀ r ∈ l, Vr r) : (∀ n ∈ k9 l, -1048576 <= n /\ n <= 1048576) /\ (k9 l).length <= 2097153 := by
 have hb : ∀ n ∈ k9 l, -1048576 <= n /\ n <= 1048576 := fun n hn => by
  obtain ⟨r, hr, h⟩ := yL.1 hn
  have := hV r hr
  unfold Vr at this
  omega
 have := kf5 (Kr l) hb
 exact ⟨hb, by omega⟩
/-! ### What is kD between two strips -/
structure BI (all : List Rc) (y : Int) (row : List Rc) (next above : Nat) (B : List Bnd) : Prop where
 nx : next <= all.length
 rl : row.length <= next
 lo : ∀ r ∈ all.take next, r.y < y
 hi : ∀ r ∈ all.drop next, y <= r.y
 cov : ∀ r ∈ all.take next, y < r.y + r.h -> r ∈ row
 sub : ∀ r ∈ row, r ∈ all.take next
 srt : row.Pairwise fun a b => a.x <= b.x
 ab : (above = (qG B.reverse).length /\ ∀ b r, B = b :: r -> b.y + b.h < y) \/ ∃ b r, B = b :: r /\ above = (qG r.reverse).length
 en : ∀ b r, B = b :: r -> b.y + b.h <= y
 pt : ∀ x y', jD0 B x y' ↔ y' < y /\ qL all x y'
structure BInv (all : List Rc) (ys : List Int) (i : Nat) (row : List Rc) (next above : Nat) (B : List Bnd) : Prop where
 ok : kI2 B
 low : ∀ b ∈ B, -1048576 <= b.y
 len : (qG B.reverse).length <= i * 1048576
 emp : ys = [] -> B = []
 il : i = 0 \/ i < ys.length
 at' : ∀ y, ys[i]? = some y -> BI all y row next above B
theorem jX0 {all : List Rc} (hV : ∀ r ∈ all, Vr r) : BInv all (k9 all) 0 [] 0 0 [] := by
 refine ⟨trivial, nofun, by simp [qG], fun _ => rfl, .inl rfl, fun y hy => ?_⟩
 have hlo : ∀ r ∈ all, y <= r.y := fun r hr => by
  obtain ⟨h1, h2⟩ := List.getElem?_eq_some_iff.1 hy
  obtain ⟨j, hj, hj2⟩ := List.mem_iff_getElem.1 (yL.2 ⟨r, hr, .inl rfl⟩)
  rw [<- h2, <- hj2]
  rcases Nat.eq_zero_or_pos j with rfl | h3
  ·exact Int.le_refl _
  ·exact Int.le_of_lt ((Kr all).lt hj h3)
 refine ⟨Nat.zero_le _, Nat.le_refl _, by simp, by simpa using hlo, by simp, nofun, .nil, .inl ⟨rfl, nofun⟩, nofun, fun x y' => ?_⟩
 constructor
 ·rintro ⟨b, hb, _⟩; cases hb
 ·rintro ⟨h1, r, hr, _, h2, _⟩
  have := hlo r hr; omega
/-! ### The band above goes on -/
def jy5 (B : List Bnd) (y : Int) (S : List (Int × Int)) : Prop := ∃ c r, B = c :: r /\ c.y + c.h = y /\ c.s = S
def ze (y h : Int) (S : List (Int × Int)) : List Rc := S.map fun s => ⟨s.1, y, s.2 - s.1, h⟩
theorem xP (b : Bnd) (r : List Bnd) : qG (b :: r).reverse = qG r.reverse ++ ze b.y b.h b.s := by
 simp [qG, ze]
theorem jV4 {y h y' h' : Int} : ∀ {u v : List (Int × Int)}, jV5 (ze y h u) (ze y' h' v) = true ↔ u = v /\ (u ≠ [] -> y + h = y')
 | [], [] => by simp [ze, jV5]
 | [], _ :: _ => by simp [ze, jV5]
 | _ :: _, [] => by simp [ze, jV5]
 | s :: u, t :: v => by
   have ih := jV4 (y := y) (h := h) (y' := y') (h' := h') (u := u) (v := v)
   show (kq8 _ _ && jV5 (ze y h u) (ze y' h' v)) = true ↔ _
   rw [Bool.and_eq_true, ih]
   simp only [kq8, Bool.and_eq_true, decide_eq_true_eq, List.cons.injEq]
   constructor
   ·rintro ⟨⟨⟨h1, h2⟩, h3⟩, h4, _⟩
    exact ⟨⟨Prod.ext h1 (by omega), h4⟩, fun _ => h3⟩
   ·rintro ⟨⟨rfl, h4⟩, h5⟩
    have h6 := h5 (by simp)
    exact ⟨⟨⟨rfl, rfl⟩, h6⟩, h4, fun _ => h6⟩
theorem kz4 {all : List Rc} {ys : List Int} {i : Nat} {row : List Rc} {next above : Nat} {B : List Bnd} {y h : Int} {S : List (Int × Int)} (hB : BInv all ys i row next above B) (hy : ys[i]? = some y) :
  (decide (0 < (((qG B.reverse).drop above).length : Int)) && jV5 ((qG B.reverse).drop above) (ze y h S)) = true ↔ jy5 B y S := by
 have hI := hB.at' y hy
 rcases hI.ab with ⟨h1, h2⟩ | ⟨c, r, rfl, h1⟩
 ·rw [h1, List.drop_length]
  constructor
  ·simp
  ·rintro ⟨c, r, rfl, h3, _⟩
   have := h2 c r rfl; omega
 ·rw [h1, xP, List.drop_left, Bool.and_eq_true, jV4, decide_eq_true_eq]
  have hc := Zu hB.ok
  constructor
  ·rintro ⟨_, h3, h4⟩
   exact ⟨c, r, rfl, h4 hc.2.1, h3⟩
  ·rintro ⟨c', r', e, h3, h4⟩
   simp only [List.cons.injEq] at e
   obtain ⟨rfl, rfl⟩ := e
   refine ⟨?_, h4, fun _ => h3⟩
   have : c.s.length ≠ 0 := fun h => hc.2.1 (List.eq_nil_of_length_eq_zero h)
   simp only [ze, List.length_map]; omega
theorem Zs {B : List Bnd} {y h : Int} {S : List (Int × Int)} (hn : ¬ jy5 B y S) : qG (vG y h S B).reverse = qG B.reverse ++ ze y h S /\ vG y h S B = if S = [] then B else ⟨y, h, S⟩ :: B := by
 have e : vG y h S B = if S = [] then B else ⟨y, h, S⟩ :: B := by
  cases B with
  | nil => rfl
  | cons b r =>
    rw [vG, if_neg]
    rintro ⟨h1, h2⟩
    exact hn ⟨b, r, rfl, h1, h2⟩
 refine ⟨?_, e⟩
 rw [e]
 split
 ·rename_i h1; subst h1; simp [ze]
 ·rw [xP]
theorem Kd {B : List Bnd} {y h : Int} {S : List (Int × Int)} (hg : jy5 B y S) : ∃ c r, B = c :: r /\ vG y h S B = ⟨c.y, c.h + h, c.s⟩ :: r /\ qG (vG y h S B).reverse = qG r.reverse ++ (ze c.y c.h c.s).map fun q => ⟨q.x, q.y, q.w, q.h + h⟩ := by
 obtain ⟨c, r, rfl, h1, h2⟩ := hg
 have e : vG y h S (c :: r) = ⟨c.y, c.h + h, c.s⟩ :: r := by rw [vG, if_pos ⟨h1, h2⟩]
 refine ⟨c, r, rfl, e, ?_⟩
 rw [e, xP]
 simp [ze]
/-! ### One strip -/
theorem jy9 {y : Int} : ∀ {l : List Rc} {r : Rc}, r ∈ l.takeWhile (fun r => decide (r.y = y)) -> r.y = y
 | [], _, h => by cases h
 | q :: l, r, h => by
   rw [List.takeWhile_cons] at h
   split at h
   ·rename_i h1
    rcases List.mem_cons.1 h with rfl | h
    ·simpa using h1
    ·exact jy9 h
   ·cases h
theorem je8 {all : List Rc} (hsort : all.Pairwise fun a b => a.y <= b.y) {y : Int} {next : Nat} (hnx : next <= all.length) (hhi : ∀ r ∈ all.drop next, y <= r.y) {cm : List Rc} (hcm : ((all.drop next).takeWhile fun r => decide (r.y = y)) = cm) :
  next + cm.length <= all.length /\ (∀ k r, k <= cm.length -> all[next + k]? = some r -> (r.y = y ↔ k < cm.length)) /\ (∀ k r, k < cm.length -> all[next + k]? = some r -> cm.take (k + 1) = cm.take k ++ [r]) /\
  (∀ r ∈ cm, r.y = y) /\ all.take (next + cm.length) = all.take next ++ cm /\ (∀ r ∈ all.drop (next + cm.length), y < r.y) := by
 have hpre : cm <+: all.drop next := by rw [<- hcm]; exact List.takeWhile_prefix _
 obtain ⟨rest, hrest⟩ := hpre
 have hlen : cm.length + rest.length = all.length - next := by rw [<- List.length_drop, <- hrest, List.length_append]
 have hall : all = all.take next ++ (cm ++ rest) := by rw [hrest, List.take_append_drop]
 have hmem : ∀ r ∈ cm, r.y = y := fun r hr => by
  rw [<- hcm] at hr
  exact jy9 hr
 have htl : (all.take next).length = next := by rw [List.length_take]; omega
 have hget : ∀ k, all[next + k]? = (cm ++ rest)[k]? := fun k => by
  rw [hall, List.getElem?_append_right (by rw [htl]; omega), htl]
  congr 1; omega
 have hfirst : ∀ r, rest[0]? = some r -> ¬ r.y = y := fun r hr h => by
  have hw : (cm ++ rest).takeWhile (fun r => decide (r.y = y)) = cm := by rw [hrest, hcm]
  rw [List.takeWhile_append_of_pos (fun q hq => by simpa using hmem q hq)] at hw
  cases rest with
  | nil => simp at hr
  | cons q m =>
    simp at hr; subst hr
    rw [List.takeWhile_cons, if_pos (by simpa using h)] at hw
    have := congrArg List.length hw
    simp at this
 refine ⟨by omega, fun k r hk hr => ?_, fun k r hk hr => ?_, hmem, ?_, fun r hr => ?_⟩
 ·rw [hget] at hr
  constructor
  ·intro h
   rcases Nat.lt_or_ge k cm.length with h1 | h1
   ·exact h1
   ·have : k = cm.length := by omega
    subst this
    rw [List.getElem?_append_right (Nat.le_refl _), Nat.sub_self] at hr
    exact absurd h (hfirst r hr)
  ·intro h
   rw [List.getElem?_append_left h] at hr
   exact hmem r (List.mem_of_getElem? hr)
 ·rw [hget, List.getElem?_append_left hk] at hr
  rw [List.take_add_one, hr]; rfl
 ·rw [List.take_add, <- hrest, List.take_left]
 ·rw [<- List.drop_drop, <- hrest, List.drop_left] at hr
  have hle : y <= r.y := hhi r (by rw [<- hrest]; exact List.mem_append_right _ hr)
  cases rest with
  | nil => cases hr
  | cons q m =>
    have hq := hfirst q rfl
    have hq2 : y <= q.y := hhi q (by rw [<- hrest]; simp)
    rcases List.mem_cons.1 hr with rfl | hr
    ·omega
    ·have hpw : (all.drop next).Pairwise fun a b => a.y <= b.y := hsort.sublist (List.drop_sublist _ _)
     rw [<- hrest] at hpw
     have := (List.pairwise_cons.1 (List.pairwise_append.1 hpw).2.1).1 r hr
     omega
theorem jC7 {y : Int} {l : List Rc} {r : Rc} : r ∈ xA y l ↔ r ∈ l /\ y < r.y + r.h := by
 unfold xA
 rw [List.mem_filter]
 simp only [qN, Bool.not_eq_true', decide_eq_false_iff_not]
 exact ⟨fun h => ⟨h.1, by omega⟩, fun h => ⟨h.1, by omega⟩⟩
theorem jM9 {all : List Rc} (hsort : all.Pairwise fun a b => a.y <= b.y) (hV : ∀ r ∈ all, Vr r) {i : Nat} {row : List Rc} {next above : Nat} {B : List Bnd} (hB : BInv all (k9 all) i row next above B)
  {y b : Int} (hy : (k9 all)[i]? = some y) (hb : (k9 all)[i + 1]? = some b) {cm : List Rc} (hcm : ((all.drop next).takeWhile fun r => decide (r.y = y)) = cm)
  {row3 : List Rc} (hp : row3.Perm (xA y row ++ cm)) (hs : row3.Pairwise fun a b => a.x <= b.x) {above' : Nat} (hab : (jy5 B y (z7 (row3.map KR)) /\ above' = above) \/ (¬ jy5 B y (z7 (row3.map KR)) /\ above' = (qG B.reverse).length)) :
  BInv all (k9 all) (i + 1) row3 (next + cm.length) above' (vG y (b - y) (z7 (row3.map KR)) B) := by
 have hI := hB.at' y hy
 obtain ⟨c1, c2, c3, c4, c5, c6⟩ := je8 hsort hI.nx hI.hi hcm
 have hU := Kr all
 have hed : ∀ r ∈ all, r.y ∈ k9 all /\ r.y + r.h ∈ k9 all := fun r hr => ⟨yL.2 ⟨r, hr, .inl rfl⟩, yL.2 ⟨r, hr, .inr rfl⟩⟩
 have hyb := (vD hU hy hb (List.mem_of_getElem? hy)).2.2
 have hbd := (jh6 hV).1
 have hy1 := hbd y (List.mem_of_getElem? hy)
 have hb1 := hbd b (List.mem_of_getElem? hb)
 have hmem3 : ∀ r, r ∈ row3 ↔ (r ∈ row /\ y < r.y + r.h) \/ r ∈ cm := fun r => by rw [hp.mem_iff, List.mem_append, jC7]
 have hsub : ∀ r ∈ row3, r ∈ all.take (next + cm.length) := fun r hr => by
  rw [c5, List.mem_append]
  rcases (hmem3 r).1 hr with h | h
  ·exact .inl (hI.sub r h.1)
  ·exact .inr h
 have hV3 : ∀ r ∈ row3, Vr r := fun r hr => hV r (List.mem_of_mem_take (hsub r hr))
 obtain ⟨s1, s2⟩ := jn9 hV3 hs
 obtain ⟨s3, s4⟩ := Ye hV3 hs
 generalize hS : z7 (row3.map KR) = S at *
 have hh : 0 < b - y := by omega
 have hen := kn5 (S := S) hh hI.en
 have hinS : ∀ x y', y <= y' -> y' < b -> (jK5 S x ↔ qL all x y') := fun x y' h1 h2 => by
  rw [s2]
  constructor
  ·rintro ⟨r, hr, h3⟩
   have hra := List.mem_of_mem_take (hsub r hr)
   have hrV := hV3 r hr
   unfold Vr at hrV
   have hry : r.y <= y /\ y < r.y + r.h := by
    rcases (hmem3 r).1 hr with h | h
    ·have := hI.lo r (hI.sub r h.1); omega
    ·have := c4 r h; omega
   have := (vD hU hy hb (hed r hra).2).1 hry.2
   exact ⟨r, hra, h3, by omega, by omega⟩
  ·rintro ⟨r, hr, h3, h4, h5⟩
   have h6 := (vD hU hy hb (hed r hr).1).2.1 (by omega)
   refine ⟨r, (hmem3 r).2 ?_, h3⟩
   rw [<- List.take_append_drop (next + cm.length) all, c5] at hr
   rcases List.mem_append.1 hr with hr | hr
   ·rcases List.mem_append.1 hr with hr | hr
    ·exact .inl ⟨hI.cov r hr (by omega), by omega⟩
    ·exact .inr hr
   ·have := c6 r hr; omega
 refine ⟨kv3 hB.ok hh s1 hI.en, fun c hc => ?_, ?_, fun h => (by rw [h] at hy; cases hy), .inr (List.getElem?_eq_some_iff.1 hb).1, fun z hz => ?_⟩
 ·rcases hab with ⟨hg, _⟩ | ⟨hg, _⟩
  ·obtain ⟨d, r, rfl, e, _⟩ := Kd (h := b - y) hg
   rw [e] at hc
   rcases List.mem_cons.1 hc with rfl | hc
   ·exact hB.low d (by simp)
   ·exact hB.low c (by simp [hc])
  ·rw [(Zs hg).2] at hc
   split at hc
   ·exact hB.low c hc
   ·rcases List.mem_cons.1 hc with rfl | hc
    ·exact hy1.1
    ·exact hB.low c hc
 ·have := hB.len
  rcases hab with ⟨hg, _⟩ | ⟨hg, _⟩
  ·obtain ⟨d, r, rfl, _, e⟩ := Kd (h := b - y) hg
   rw [e]
   rw [xP, List.length_append] at this
   rw [List.length_append, List.length_map, Nat.succ_mul]
   exact Nat.le_trans this (Nat.le_add_right _ _)
  ·rw [(Zs hg).1, List.length_append, ze, List.length_map, Nat.succ_mul]
   exact Nat.add_le_add this s4
 ·rw [hb] at hz
  injection hz with hz
  subst hz
  refine ⟨c1, by rw [hp.length_eq, List.length_append]; have := List.length_filter_le (fun r => !qN y r) row; have := hI.rl; unfold xA; omega, fun r hr => ?_, fun r hr => ?_, fun r hr h => ?_, hsub, hs, ?_, fun c r e => by have := hen c r e; omega, fun x y' => ?_⟩
  ·rw [c5] at hr
   rcases List.mem_append.1 hr with hr | hr
   ·have := hI.lo r hr; omega
   ·have := c4 r hr; omega
  ·exact (vD hU hy hb (hed r (List.mem_of_mem_drop hr)).1).1 (c6 r hr)
  ·rw [c5] at hr
   rcases List.mem_append.1 hr with hr | hr
   ·exact (hmem3 r).2 (.inl ⟨hI.cov r hr (by omega), by omega⟩)
   ·exact (hmem3 r).2 (.inr hr)
  ·rcases hab with ⟨hg, rfl⟩ | ⟨hg, rfl⟩
   ·obtain ⟨d, r, rfl, e, _⟩ := Kd (h := b - y) hg
    refine .inr ⟨_, _, e, ?_⟩
    rcases hI.ab with ⟨_, h2⟩ | ⟨d', r', e', h2⟩
    ·obtain ⟨d', r', e', h3, _⟩ := hg
     simp only [List.cons.injEq] at e'
     obtain ⟨rfl, rfl⟩ := e'
     have := h2 d r rfl; omega
    ·simp only [List.cons.injEq] at e'
     obtain ⟨rfl, rfl⟩ := e'
     exact h2
   ·rw [(Zs hg).2]
    split
    ·refine .inl ⟨rfl, fun c r e => ?_⟩
     have := hI.en c r e; omega
    ·exact .inr ⟨_, _, rfl, rfl⟩
  ·rw [kv4 hB.ok hh, hI.pt]
   constructor
   ·rintro (⟨h1, h2⟩ | ⟨⟨h1, h2⟩, h3⟩)
    ·exact ⟨by omega, h2⟩
    ·exact ⟨by omega, (hinS x y' h1 (by omega)).1 h3⟩
   ·rintro ⟨h1, h2⟩
    by_cases h3 : y' < y
    ·exact .inl ⟨h3, h2⟩
    ·exact .inr ⟨⟨by omega, by omega⟩, (hinS x y' (by omega) h1).2 h2⟩
theorem ke5 {all : List Rc} {i : Nat} {row : List Rc} {next above : Nat} {B : List Bnd} (hB : BInv all (k9 all) i row next above B) (hi : ¬ i + 1 < (k9 all).length) :
  Jy (qG B.reverse) /\ ∀ x y, qL (qG B.reverse) x y ↔ qL all x y := by
 refine ⟨⟨_, ki2 hB.ok, rfl⟩, fun x y => ?_⟩
 rw [YK, kJ7]
 by_cases hn : k9 all = []
 ·rw [hB.emp hn]
  have : all = [] := by
   cases all with
   | nil => rfl
   | cons r l =>
     have : r.y ∈ k9 (r :: l) := yL.2 ⟨r, by simp, .inl rfl⟩
     rw [hn] at this; cases this
  subst this
  constructor
  ·rintro ⟨_, h, _⟩; cases h
  ·rintro ⟨_, h, _⟩; cases h
 ·have hl : (k9 all).length ≠ 0 := fun h => hn (List.eq_nil_of_length_eq_zero h)
  have hil : i < (k9 all).length := by rcases hB.il with h | h <;> omega
  obtain ⟨y0, hy0⟩ : ∃ y0, (k9 all)[i]? = some y0 := ⟨_, List.getElem?_eq_getElem hil⟩
  rw [(hB.at' y0 hy0).pt]
  refine ⟨fun h => h.2, fun h => ⟨?_, h⟩⟩
  obtain ⟨r, hr, _, h1, h2⟩ := h
  obtain ⟨j, hj, e⟩ := List.mem_iff_getElem.1 (yL.2 ⟨r, hr, .inr rfl⟩ : r.y + r.h ∈ k9 all)
  obtain ⟨_, e0⟩ := List.getElem?_eq_some_iff.1 hy0
  have : r.y + r.h <= y0 := by
   rw [<- e, <- e0]
   rcases Nat.lt_or_ge j i with h3 | h3
   ·exact Int.le_of_lt ((Kr all).lt hil h3)
   ·have : j = i := by omega
    subst this; exact Int.le_refl _
  omega
end Go.AM
