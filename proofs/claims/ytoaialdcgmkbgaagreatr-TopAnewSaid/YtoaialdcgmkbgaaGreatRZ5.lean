import Derived.Test.YtoaialdcgmkbgaaGreatRZ4
import Derived.Test.YtoaialdcgmkbgaaGreatRZ1

set_option linter.all false
namespace Go.AM
open Go Go.Proofs Go.RowKit Go.Lib Go.Sort
instance : Inhabited Rc := ⟨.o⟩
def rC (r : Rc) : List Value := [.int .i64 r.x, .int .i64 r.y, .int .i64 r.w, .int .i64 r.h]
def rV (r : Rc) : Value := .agg (rC r).toArray
theorem kh2 {K : Kn} {pl : Pl} : ∀ {l : List Rc} {vs : List Value}, RepL K pl (kJ l) vs -> vs = l.map rV
 | [], vs, h => by simpa [kJ, RepL] using h
 | x :: l, vs, h => by
   simp only [kJ, List.map_cons, RepL] at h
   obtain ⟨v, r, rfl, h1, h⟩ := h
   rw [kh2 (l := l) h]
   simp only [rD, Rep, RepL] at h1
   obtain ⟨cs, rfl, ⟨a, _, rfl, rfl, b, _, rfl, rfl, c, _, rfl, rfl, d, _, rfl, rfl, rfl⟩, _⟩ := h1
   rfl
theorem kh0 {K : Kn} {pl : Pl} : ∀ {l : List Rc}, RepL K pl (kJ l) (l.map rV)
 | [] => by simp [kJ, RepL]
 | x :: l => by
   simp only [kJ, List.map_cons, RepL]
   refine ⟨_, _, rfl, ?_, kh0 (l := l)⟩
   simp only [rD, Rep, RepL]
   exact ⟨rC x, rfl, ⟨_, _, rfl, rfl, _, _, rfl, rfl, _, _, rfl, rfl, _, _, rfl, rfl, rfl⟩, by simp [rC, Value.oneCell']⟩
theorem jt0 (l : List Rc) : qa (l.map rV) = l.flatMap rC := by
 simp only [qa, List.flatMap_map]
 rfl
theorem YJ (l : List Rc) : (l.flatMap rC).length = l.length * 4 := by
 induction l with
 | nil => rfl
 | cons x l ih => simp only [List.flatMap_cons, List.length_append, ih, List.length_cons]; simp [rC]; omega
theorem km8 (l : List Rc) : sized 4 (l.map rV) := fun v hv => by
 obtain ⟨r, _, rfl⟩ := List.mem_map.1 hv
 exact ⟨rfl, fun c hc => by simp [rV, Value.cells, rC] at hc; rcases hc with rfl | rfl | rfl | rfl <;> rfl⟩
theorem jL5 : ∀ (l : List Rc) (t : Nat), t < l.length * 4 -> (l.flatMap rC)[t]? = some (rC (l[t / 4]!))[t % 4]!
 | [], t, h => by simp at h
 | x :: l, t, h => by
   rw [List.flatMap_cons]
   by_cases ht : t < 4
   ·rw [List.getElem?_append_left (by simpa [rC] using ht), Nat.div_eq_of_lt ht, Nat.mod_eq_of_lt ht]
    have : (rC x)[t]? = some (rC x)[t]! := by
     rw [List.getElem?_eq_getElem (by simpa [rC] using ht), getElem!_pos (rC x) t (by simpa [rC] using ht)]
    simpa using this
   ·obtain ⟨u, rfl⟩ : ∃ u, t = u + 4 := ⟨t - 4, by omega⟩
    rw [List.getElem?_append_right (by simp [rC]), show u + 4 - (rC x).length = u from by simp [rC], jL5 l u (by simp at h; omega), Nat.add_div_right u (by omega), Nat.add_mod_right]
    simp
theorem kd5 (d : Array Rc) : (flatK rC 4 d).toList = d.toList.flatMap rC := by
 refine List.ext_getElem? fun t => ?_
 by_cases ht : t < d.size * 4
 ·rw [jL5 d.toList t (by simpa using ht)]
  have h1 := get_flatK rC 4 d t ht
  rw [Array.getElem?_toList, Array.getElem?_eq_getElem (by simpa using ht)]
  rw [getElem!_pos (flatK rC 4 d) t (by simpa using ht)] at h1
  rw [h1]
  have hq : t / 4 < d.size := by omega
  rw [getElem!_pos d _ hq, getElem!_pos d.toList _ (by simpa using hq), Array.getElem_toList]
 ·rw [List.getElem?_eq_none (by simp; omega), List.getElem?_eq_none (by rw [YJ]; simp; omega)]
theorem kn4 {K : Kn} {pl : Pl} {w : World} {bx : List Ent} {k ver : Nat} {e : TypeId} {l : List Rc} (htab : Tab K pl w bx) (hk : bx[k]? = some (.arr e 4 ver (kJ l))) (hne : l ≠ []) :
  ∃ g cap cur, pl k ver = some (.slice (some ⟨g, 0, none⟩) l.length cap) /\ w.heap[g]? = some (.cells cur e (0, 0)) /\ g < w.heap.size /\ l.length <= cap /\ cap <= maxLen /\ cur.size = cap * 4 /\ HoldsK rC 4 w g 0 l.toArray := by
 obtain ⟨v0, vs, h1, h2, h3, h4, h5, h6, h7⟩ := htab.ok k _ hk
 have e0 := kh2 h3
 subst e0
 rw [jt0, j8] at h2
 obtain ⟨q1, q2⟩ := h2
 rcases q2 with ⟨_, q2⟩ | ⟨g, cap, cur, rfl, _, q4, q5, q6, q7, q8⟩
 ·exact absurd (List.eq_nil_of_length_eq_zero q2) hne
 refine ⟨g, cap, cur, h1, q4, (Array.getElem?_eq_some_iff.1 q4).1, q5, q6, q7, fun j hj => ?_⟩
 have hj' : j < l.length * 4 := by simpa using hj
 refine ⟨?_, by rw [Nat.zero_add]; exact jD5 q4 j⟩
 have := congrArg (fun x => x[j]?) q8
 rw [List.getElem?_take_of_lt hj'] at this
 rw [Nat.zero_add, kk0 q4, <- Array.getElem?_toList, this, jL5 l j hj', get_flatK rC 4 _ j (by simpa using hj')]
 simp
def Yx (cf : Rc -> Rc -> Int) (l : List Rc) : List Rc := (pdq (ltOf cf) l.toArray 0 l.toArray.size (Lib.bitLen l.toArray.size) true true).toList
theorem jP6 {lt : Rc -> Rc -> Bool} {l : List Rc} {d : Array Rc} (h1 : PermIn 0 l.toArray.size l.toArray d) (h3 : SortedIn lt 0 l.toArray.size d) : d.toList.length = l.length /\ d.toList.Perm l /\ d.toList.Pairwise (fun a b => lt b a = false) := by
 obtain ⟨h1, _, h2⟩ := h1
 have hz : d.toList.length = l.length := by simpa using h1
 refine ⟨hz, ?_, List.pairwise_iff_getElem.2 fun i j hi hj hij => ?_⟩
 ·rw [Array.extract_size] at h2
  rw [<- h1, Array.extract_size] at h2
  exact h2
 ·have := h3 i j (Nat.zero_le _) hij (by rw [<- h1]; simpa using hj)
  rw [getElem!_pos d i (by simpa using hi), getElem!_pos d j (by simpa using hj)] at this
  rw [Array.getElem_toList, Array.getElem_toList]
  exact this
theorem Z3 {cf : Rc -> Rc -> Int} (hO : SWO (ltOf cf)) (l : List Rc) : (Yx cf l).length = l.length /\ (Yx cf l).Perm l /\ (Yx cf l).Pairwise (fun a b => ltOf cf b a = false) := by
 obtain ⟨h1, h3⟩ := pdq_sorts (ltOf cf) hO l.toArray 0 l.toArray.size (Lib.bitLen l.toArray.size) true true (Nat.zero_le _) (Nat.le_refl _) (Or.inl rfl)
 exact jP6 h1 h3
theorem kv8 (cf : Rc -> Rc -> Int) (hO : SWO (ltOf cf)) : Yx cf [] = [] := List.eq_nil_of_length_eq_zero (Z3 hO []).1
theorem jP8 {g : Nat} {cf : Rc -> Rc -> Int} (hO : SWO (ltOf cf)) (eg : ∀ args w, (callFunc g args).run Tryz.prog w = .ok (.enter g args) w)
  (hc : ∀ (x y : Rc) (W : World), Calls Tryz.prog g #[rV x, rV y] W fun e w' => e = .returned (.int .i64 (cf x y)) /\ ∃ q os', w' = grow (W.drewN q) os')
  {l : List Rc} {ver : Nat} (hl : l.length < 4611686018427387904) : vT 59 [.own 0 ver, .fn g []] [.arr 45 4 ver (kJ l)] (.tup []) [.arr 45 4 ver (kJ (Yx cf l))] := by
 refine ⟨⟨_, Tryz.func59, by kernel_rfl, by kernel_rfl⟩, fun K pl w vs hmod hglob htab hrep => ?_⟩
 obtain ⟨vs⟩ := vs
 simp only [RepL, Rep] at hrep
 obtain ⟨v, _, rfl, ⟨hv, a, n, c, rfl⟩, f, _, rfl, ⟨cs, rfl, rfl⟩, rfl⟩ := hrep
 by_cases hne : l = []
 ·subst hne
  obtain ⟨v0, vs, h1, h2, h3, h4, h5, h6, h7⟩ := htab.ok 0 _ rfl
  rw [hv] at h1
  injection h1 with h1
  subst h1
  have hn : n = 0 := by
   rcases h2.2 with ⟨h, _⟩ | ⟨g, cap, cur, h, _⟩ <;> (injection h with h8 h9 h10)
  subst hn
  refine (AnyF.slices_SortFunc_none Tryz.sortR a c _ w).mono ?_
  rintro e w' ⟨rfl, rfl⟩
  exact ⟨_, K, pl, rfl, by have := Inv.start (gt := zM) hmod hglob htab; rw [kv8 cf hO]; exact this, by simp [Rep, RepL]⟩
 ·obtain ⟨g', cap, cur, h1, h2, h3, h4, h5, h6, h7⟩ := kn4 htab (k := 0) rfl hne
  rw [hv] at h1
  injection h1 with h1
  injection h1 with h8 h9 h10
  subst h8 h9 h10
  have hcmp : CmpLays Tryz.prog g #[] rC 4 cf g' 0 l.toArray.size w := fun m os dk hs x y => hc x y _
  have hgot := AnyQ.slices_SortFunc_eq Tryz.sortR 4 Tryz.isAgg45 Tryz.sizeOf45 rC (fun _ => rfl) (fun x v hv => by simp [rC] at hv; rcases hv with rfl | rfl | rfl | rfl <;> rfl) cf hO g #[] g' 0 c l.toArray w eg hcmp h7 h3 (by simpa using hl)
  refine hgot.mono ?_
  rintro e w' ⟨rfl, n, os, rfl⟩
  have hpl : (Yx cf l).length = l.length := (Z3 hO l).1
  have hd : (pdq (ltOf cf) l.toArray 0 l.toArray.size (Lib.bitLen l.toArray.size) true true) = (Yx cf l).toArray := by simp [Yx]
  rw [hd]
  unfold sortWorldK putRowK
  have hsz : (flatK rC 4 (Yx cf l).toArray).size <= cur.size := by simp [hpl, h6]; omega
  have hput := Xf (enc := id) (off := 0) (d := flatK rC 4 (Yx cf l).toArray) (w := Sort.ahead w n) h2
  refine ⟨_, K, pl, rfl, jS4 hmod hglob htab (k := 0) (xs := kJ l) (xs' := kJ (Yx cf l)) rfl (by rw [j8]; exact hv) (by cases l with | nil => exact absurd rfl hne | cons a r => simp [kJ]) (cap := c)
   (by rw [Sort.heap_grow_old _ os (by rw [Go.Sort.size_putRow]; exact h3)]; exact hput) (by rw [JI, h6]) h5 (by rw [j8]; exact h4) (by simp [j8, hpl]) kh0 (km8 _) (by rw [jt0, YJ, j8])
   (by rw [jt0, j8]; have := JH id (flatK rC 4 (Yx cf l).toArray) cur hsz; rw [kd5] at this; simpa using this)
   ⟨rfl, rfl, rfl, by rw [Sort.size_grow, Go.Sort.size_putRow]; exact Nat.le_add_right _ _, fun b hb hn => by rw [Sort.heap_grow_old _ os (by rw [Go.Sort.size_putRow]; exact hb), Zr _ _ _ _ _ _ hn]; rfl⟩, by simp [Rep, RepL]⟩
def cf1 (a b : Rc) : Int := Zz.orI (Lib.compareInt a.y b.y) (Lib.compareInt a.x b.x)
def cf3 (a b : Rc) : Int := Lib.compareInt a.x b.x
theorem je9 (x y : Int) : (Lib.compareInt x y = -1 /\ x < y) \/ (Lib.compareInt x y = 1 /\ y < x) \/ (Lib.compareInt x y = 0 /\ x = y) := by
 unfold Lib.compareInt
 by_cases h : x < y
 ·exact .inl ⟨if_pos h, h⟩
 ·by_cases h2 : x > y
  ·exact .inr (.inl ⟨by rw [if_neg h, if_pos h2], h2⟩)
  ·exact .inr (.inr ⟨by rw [if_neg h, if_neg h2], by omega⟩)
theorem lt1 (a b : Rc) : ltOf cf1 a b = true ↔ a.y < b.y \/ (a.y = b.y /\ a.x < b.x) := by
 unfold ltOf cf1 Zz.orI
 rw [decide_eq_true_iff]
 rcases je9 a.y b.y with ⟨h, h'⟩ | ⟨h, h'⟩ | ⟨h, h'⟩ <;> rcases je9 a.x b.x with ⟨h2, h2'⟩ | ⟨h2, h2'⟩ | ⟨h2, h2'⟩ <;> rw [h, h2] <;> simp <;> omega
theorem lt3 (a b : Rc) : ltOf cf3 a b = true ↔ a.x < b.x := by
 unfold ltOf cf3
 rw [decide_eq_true_iff]
 rcases je9 a.x b.x with ⟨h2, h2'⟩ | ⟨h2, h2'⟩ | ⟨h2, h2'⟩ <;> rw [h2] <;> simp <;> omega
theorem swo1 : SWO (ltOf cf1) := by
 refine ⟨fun x => ?_, fun x y z h1 h2 => ?_, fun x y z h1 h2 => ?_⟩
 ·rw [<- Bool.not_eq_true, lt1]; omega
 ·rw [lt1] at h1 h2 |-; omega
 ·rw [<- Bool.not_eq_true, lt1] at h1 h2 |-; omega
theorem swo3 : SWO (ltOf cf3) := by
 refine ⟨fun x => ?_, fun x y z h1 h2 => ?_, fun x y z h1 h2 => ?_⟩
 ·rw [<- Bool.not_eq_true, lt3]; omega
 ·rw [lt3] at h1 h2 |-; omega
 ·rw [<- Bool.not_eq_true, lt3] at h1 h2 |-; omega
def jv6 (l : List Rc) : List Rc := Yx cf1 l
def kF3 (l : List Rc) : List Rc := Yx cf3 l
theorem ku1 {l : List Rc} {ver : Nat} (hl : l.length < 4611686018427387904) : vT 59 [.own 0 ver, .fn 60 []] [.arr 45 4 ver (kJ l)] (.tup []) [.arr 45 4 ver (kJ (jv6 l))] :=
 jP8 swo1 (enters_of Tryz.func60 (by kernel_rfl) (Option.some_get (x := Tryz.f60.body) (by kernel_rfl)).symm) (fun x y W => Zz.closure1 (x.x, x.y, x.w, x.h) (y.x, y.y, y.w, y.h) W) hl
theorem ku0 {l : List Rc} {ver : Nat} (hl : l.length < 4611686018427387904) : vT 59 [.own 0 ver, .fn 66 []] [.arr 45 4 ver (kJ l)] (.tup []) [.arr 45 4 ver (kJ (kF3 l))] :=
 jP8 swo3 (enters_of Tryz.func66 (by kernel_rfl) (Option.some_get (x := Tryz.f66.body) (by kernel_rfl)).symm) (fun x y W => Zz.closure3 (x.x, x.y, x.w, x.h) (y.x, y.y, y.w, y.h) W) hl
theorem ZZ (l : List Rc) : (jv6 l).length = l.length /\ (jv6 l).Perm l /\ (jv6 l).Pairwise (fun a b => a.y < b.y \/ (a.y = b.y /\ a.x <= b.x)) := by
 obtain ⟨h1, h2, h3⟩ := Z3 swo1 l
 exact ⟨h1, h2, h3.imp fun h => by rw [<- Bool.not_eq_true, lt1] at h; omega⟩
theorem jz4 (l : List Rc) : (kF3 l).length = l.length /\ (kF3 l).Perm l /\ (kF3 l).Pairwise (fun a b => a.x <= b.x) := by
 obtain ⟨h1, h2, h3⟩ := Z3 swo3 l
 exact ⟨h1, h2, h3.imp fun h => by rw [<- Bool.not_eq_true, lt3] at h; omega⟩
end Go.AM
