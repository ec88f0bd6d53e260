import Derived.Test.YtoaialdcgmkbgaaGreatRZ2
import Derived.Test.YtoaialdcgmkbgaaGreatRShelf

set_option linter.all false
namespace Go.AM
open Go Go.Proofs Go.RowKit Go.Lib Go.Sort
def QG (l : List Int) : List Int := l.mergeSort fun x y => decide (x <= y)
theorem X0 (l : List Int) : (QG l).length = l.length := by simp [QG]
theorem jP9 {l : List Int} {ver : Nat} (hl : l.length < 4611686018427387904) : vT 125 [.own 0 ver] [.arr 3 1 ver (iI l)] (.tup []) [.arr 3 1 ver (iI (QG l))] := by
 refine ⟨⟨_, Tryz.func125, by kernel_rfl, by kernel_rfl⟩, fun K pl w vs hmod hglob htab hrep => ?_⟩
 obtain ⟨vs⟩ := vs
 simp only [RepL, Rep] at hrep
 obtain ⟨v, _, rfl, ⟨hv, a, n, c, rfl⟩, rfl⟩ := hrep
 by_cases hne : l = []
 ·subst hne
  obtain ⟨v0, vs, h1, h2, h3, h4, h5, h6, h7⟩ := htab.ok 0 _ rfl
  rw [hv] at h1
  injection h1 with h1
  subst h1
  have hn : n = 0 := by
   rcases h2.2 with ⟨h, _⟩ | ⟨g, cap, cur, h, _⟩ <;> (injection h with h8 h9 h10)
  subst hn
  refine (Tryz.slices_Sort_int_none a c w).mono ?_
  rintro e w' ⟨rfl, rfl⟩
  exact ⟨_, K, pl, rfl, by have := Inv.start (gt := zM) hmod hglob htab; simpa [iI, QG] using this, by simp [Rep, RepL]⟩
 ·obtain ⟨g, cap, cur, h1, h2, h3, h4, h5, h6, h7⟩ := jU7 htab (k := 0) rfl hne
  rw [hv] at h1
  injection h1 with h1
  injection h1 with h8 h9 h10
  subst h8 h9 h10
  refine (Tryz.slices_Sort_int g 0 c l w h7 h3 hl).mono ?_
  rintro e w' ⟨rfl, n, os, rfl⟩
  have hsz : (QG l).toArray.size <= cur.size := by simp [X0, h6, h4]
  have hput := Xf (enc := Value.int .i64) (off := 0) (d := (QG l).toArray) (w := Sort.ahead w n) h2
  refine ⟨_, K, pl, rfl, jS4 hmod hglob htab (k := 0) (xs := iI l) (xs' := iI (QG l)) rfl (by rw [zI]; exact hv) (by cases l with | nil => exact absurd rfl hne | cons a r => simp [iI]) (cap := c)
   (by rw [Sort.heap_grow_old _ os (by rw [Go.Sort.size_putRow]; exact h3)]; exact hput) (by rw [JI, h6, Nat.mul_one]) h5 (by rw [zI]; exact h4) (by simp [zI, X0]) ka7 (jQ2 _) (by rw [YL]; simp [zI])
   (by rw [YL, zI, Nat.mul_one]; have := JH (Value.int .i64) (QG l).toArray cur hsz; simpa using this)
   ⟨rfl, rfl, rfl, by rw [Sort.size_grow, Go.Sort.size_putRow]; exact Nat.le_add_right _ _, fun b hb hn => by rw [Sort.heap_grow_old _ os (by rw [Go.Sort.size_putRow]; exact hb), Zr _ _ _ _ _ _ hn]; rfl⟩, by simp [Rep, RepL]⟩
theorem kK7 (l : List Int) : (Lib.compact l).length <= l.length := by
 unfold Lib.compact Lib.compactUpTo
 rw [List.length_map]
 exact Nat.le_trans (List.length_filter_le _ _) (by simp)
theorem jg2 {l : List Int} {ver : Nat} (hl : l.length < 4611686018427387904) : vT 126 [.own 0 ver] [.arr 3 1 ver (iI l)] (.own 0 (ver + 1)) [.arr 3 1 (ver + 1) (iI (Lib.compact l))] := by
 refine ⟨⟨_, Tryz.func126, by kernel_rfl, by kernel_rfl⟩, fun K pl w vs hmod hglob htab hrep => ?_⟩
 obtain ⟨vs⟩ := vs
 simp only [RepL, Rep] at hrep
 obtain ⟨v, _, rfl, ⟨hv, a, n, c, rfl⟩, rfl⟩ := hrep
 by_cases hne : l = []
 ·subst hne
  obtain ⟨v0, vs, h1, h2, h3, h4, h5, h6, h7⟩ := htab.ok 0 _ rfl
  rw [hv] at h1
  injection h1 with h1
  subst h1
  have hn : n = 0 := by
   rcases h2.2 with ⟨h, _⟩ | ⟨g, cap, cur, h, _⟩ <;> (injection h with h8 h9 h10)
  subst hn
  refine (Tryz.slices_Compact_int_empty a c w).mono ?_
  rintro e w' ⟨rfl, rfl⟩
  have hx := kw0 (gt := zM) hmod hglob htab (k := 0) rfl hv
  refine ⟨_, K, _, rfl, hx.2, ?_⟩
  simp only [Rep]
  exact ⟨jY _ _ _ _, _, _, _, rfl⟩
 ·obtain ⟨g, cap, cur, h1, h2, h3, h4, h5, h6, h7⟩ := jU7 htab (k := 0) rfl hne
  rw [hv] at h1
  injection h1 with h1
  injection h1 with h8 h9 h10
  subst h8 h9 h10
  refine (Tryz.slices_Compact_int g 0 c l w h7 (by omega) h4).mono ?_
  rintro e w' ⟨rfl, q, rfl⟩
  have hcl : (Lib.compact l).length <= l.length := kK7 l
  have hsz : (Lib.compact l ++ List.replicate (l.length - (Lib.compact l).length) (0 : Int)).toArray.size <= cur.size := by simp [h6]; omega
  have hput := Xf (enc := Value.int .i64) (off := 0) (d := (Lib.compact l ++ List.replicate (l.length - (Lib.compact l).length) (0 : Int)).toArray) (w := Sort.ahead w q) h2
  have hx := kH5 (gt := zM) hmod hglob htab (k := 0) (xs := iI l) (xs' := iI (Lib.compact l)) (cap := c) rfl (by rw [zI]; exact hv) hput (by rw [JI, h6, Nat.mul_one]) h5 (by rw [zI]; omega) ka7 (jQ2 _) (by rw [YL]; simp [zI])
   (by
     rw [YL, zI, Nat.mul_one]
     have := congrArg (fun x => x.take (Lib.compact l).length) (JH (Value.int .i64) _ cur hsz)
     simp only [List.take_take, List.size_toArray, List.length_append, List.length_replicate, List.map_append] at this
     rw [Nat.min_eq_left (by omega)] at this
     rw [this]
     simp)
   ⟨rfl, rfl, rfl, by rw [Go.Sort.size_putRow]; exact Nat.le_refl _, fun b hb hn => by rw [Zr _ _ _ _ _ _ hn]; rfl⟩
  refine ⟨_, K, _, rfl, hx.2, ?_⟩
  simp only [Rep, zI]
  exact ⟨jY _ _ _ _, _, _, _, rfl⟩
end Go.AM
