import Derived.Test.YtoaialdcgmkbgaaGreatRZ5
import Derived.Test.YtoaialdcgmkbgaaGreatRCode2

set_option linter.all false
namespace Go.Proofs
open Go.Shelf Go.Lib Go.Sort
def Tryz.sortP_ren : Go.Shelf.Ren := ⟨fun | 6 => 185 | 15 => 123 | 14 => 213 | 28 => 176 | 29 => 177 | 20 => 218 | 21 => 219 | 22 => 220 | 23 => 221 | 24 => 222 | 25 => 223 | 26 => 224 | 27 => 225 | 46 => 227 | 47 => 195 | 48 => 196 | 49 => 228 | 50 => 229 | 57 => 230 | n => n, fun | 22 => 280 | 24 => 285 | 25 => 289 | 3 => 3 | 39 => 223 | 0 => 0 | 53 => 52 | 55 => 276 | 4 => 4 | 46 => 269 | 45 => 268 | 50 => 257 | 5 => 5 | 9 => 9 | 66 => 294 | 70 => 298 | 76 => 308 | 77 => 38 | n => n, fun | n => n⟩
theorem Tryz.sortP : Go.Proofs.SlLaysF0.n6 Tryz.prog Tryz.sortP_ren := {
 mixed := by kernel_rfl
 f6 := ⟨Tryz.f185.name, by decide, Tryz.func185.trans (congrArg some (by kernel_rfl))⟩
 f14 := ⟨Tryz.f213.name, by decide, Tryz.func213.trans (congrArg some (by kernel_rfl))⟩
 f15 := Tryz.func123.trans (congrArg some (by kernel_rfl))
 f20 := ⟨Tryz.f218.name, by decide, Tryz.func218.trans (congrArg some (by kernel_rfl))⟩
 f21 := ⟨Tryz.f219.name, by decide, Tryz.func219.trans (congrArg some (by kernel_rfl))⟩
 f22 := ⟨Tryz.f220.name, by decide, Tryz.func220.trans (congrArg some (by kernel_rfl))⟩
 f23 := ⟨Tryz.f221.name, by decide, Tryz.func221.trans (congrArg some (by kernel_rfl))⟩
 f24 := ⟨Tryz.f222.name, by decide, Tryz.func222.trans (congrArg some (by kernel_rfl))⟩
 f25 := ⟨Tryz.f223.name, by decide, Tryz.func223.trans (congrArg some (by kernel_rfl))⟩
 f26 := ⟨Tryz.f224.name, by decide, Tryz.func224.trans (congrArg some (by kernel_rfl))⟩
 f27 := ⟨Tryz.f225.name, by decide, Tryz.func225.trans (congrArg some (by kernel_rfl))⟩
 f28 := Tryz.func176.trans (congrArg some (by kernel_rfl))
 f29 := Tryz.func177.trans (congrArg some (by kernel_rfl))
 f46 := ⟨Tryz.f227.name, by decide, Tryz.func227.trans (congrArg some (by kernel_rfl))⟩
 f47 := Tryz.func195.trans (congrArg some (by kernel_rfl))
 f48 := Tryz.func196.trans (congrArg some (by kernel_rfl))
 f49 := ⟨Tryz.f228.name, by decide, Tryz.func228.trans (congrArg some (by kernel_rfl))⟩
 f50 := ⟨Tryz.f229.name, by decide, Tryz.func229.trans (congrArg some (by kernel_rfl))⟩
 f57 := ⟨Tryz.f230.name, by decide, Tryz.func230.trans (congrArg some (by kernel_rfl))⟩
 t0 := Tryz.underlying0
 a0 := Tryz.isAgg0
 z0 := Tryz.sizeOf0
 v0 := Tryz.zeroValue0
 t3 := Tryz.underlying3
 a3 := Tryz.isAgg3
 z3 := Tryz.sizeOf3
 v3 := Tryz.zeroValue3
 t4 := Tryz.underlying4
 a4 := Tryz.isAgg4
 z4 := Tryz.sizeOf4
 v4 := Tryz.zeroValue4
 t5 := Tryz.underlying5
 a5 := Tryz.isAgg5
 z5 := Tryz.sizeOf5
 v5 := Tryz.zeroValue5
 t9 := Tryz.underlying9
 a9 := Tryz.isAgg9
 z9 := Tryz.sizeOf9
 v9 := Tryz.zeroValue9
 t22 := Tryz.underlying280
 a22 := Tryz.isAgg280
 z22 := Tryz.sizeOf280
 v22 := Tryz.zeroValue280
 t25 := Tryz.underlying289
 a25 := Tryz.isAgg289
 z25 := Tryz.sizeOf289
 v25 := Tryz.zeroValue289
 t39 := Tryz.underlying223
 a39 := Tryz.isAgg223
 z39 := Tryz.sizeOf223
 v39 := Tryz.zeroValue223
 t45 := Tryz.underlying268
 a45 := Tryz.isAgg268
 z45 := Tryz.sizeOf268
 v45 := Tryz.zeroValue268
 t46 := Tryz.underlying269
 a46 := Tryz.isAgg269
 z46 := Tryz.sizeOf269
 v46 := Tryz.zeroValue269
 t50 := Tryz.underlying257
 a50 := Tryz.isAgg257
 z50 := Tryz.sizeOf257
 v50 := Tryz.zeroValue257
 t53 := Tryz.underlying52
 a53 := Tryz.isAgg52
 z53 := Tryz.sizeOf52
 v53 := Tryz.zeroValue52
 t55 := Tryz.underlying276
 a55 := Tryz.isAgg276
 z55 := Tryz.sizeOf276
 v55 := Tryz.zeroValue276
 t66 := Tryz.underlying294
 a66 := Tryz.isAgg294
 z66 := Tryz.sizeOf294
 v66 := Tryz.zeroValue294
 t70 := Tryz.underlying298
 a70 := Tryz.isAgg298
 z70 := Tryz.sizeOf298
 v70 := Tryz.zeroValue298
 t76 := Tryz.underlying308
 a76 := Tryz.isAgg308
 z76 := Tryz.sizeOf308
 v76 := Tryz.zeroValue308
 t77 := Tryz.underlying38
 a77 := Tryz.isAgg38
 z77 := Tryz.sizeOf38
 v77 := Tryz.zeroValue38 }
theorem Zz.closureP (x y : Int × Int) (W : World) : Calls Tryz.prog 186 #[.agg #[.int .i64 x.1, .int .i64 x.2], .agg #[.int .i64 y.1, .int .i64 y.2]] W fun e w' => e = .returned (.int .i64 (Lib.compareInt x.1 y.1)) ∧ ∃ q os', w' = grow (W.drewN q) os' := by
 have hcon := fun W' => Zz.compare x.1 y.1 W'
 generalize Lib.compareInt x.1 y.1 = r at hcon ⊢
 go_enter Tryz.func186, Tryz.ntmps186
 go_wp2_with (go_at_call 62; refine (hcon _).mono ?_; rintro e w' ⟨rfl, rfl⟩)
 go_ret
 exact ⟨rfl, 0, _, by rw [alloc_eq_grow, alloc_eq_grow, grow_grow]; rfl⟩
end Go.Proofs
namespace Go.AM
open Go Go.Proofs Go.RowKit Go.Lib Go.Sort
abbrev Pt := Int × Int
def pD (p : Pt) : D := .agg [.int .i64 p.1, .int .i64 p.2]
def pds (l : List Pt) : List D := l.map pD
theorem kV (l : List Pt) : (pds l).length = l.length := by simp [pds]
theorem vL {l : List Pt} {i : Nat} {p : Pt} (h : l[i]? = some p) : (pds l)[i]? = some (pD p) := by simp [pds, h]
def pC (r : Pt) : List Value := [.int .i64 r.1, .int .i64 r.2]
def pV (r : Pt) : Value := .agg (pC r).toArray
theorem pds_rep {K : Kn} {pl : Pl} : ∀ {l : List Pt} {vs : List Value}, RepL K pl (pds l) vs → vs = l.map pV
 | [], vs, h => by simpa [pds, RepL] using h
 | x :: l, vs, h => by
   simp only [pds, List.map_cons, RepL] at h
   obtain ⟨v, r, rfl, h1, h⟩ := h
   rw [pds_rep (l := l) h]
   simp only [pD, Rep, RepL] at h1
   obtain ⟨cs, rfl, ⟨a, _, rfl, rfl, b, _, rfl, rfl, rfl⟩, _⟩ := h1
   rfl
theorem rep_pds {K : Kn} {pl : Pl} : ∀ {l : List Pt}, RepL K pl (pds l) (l.map pV)
 | [] => by simp [pds, RepL]
 | x :: l => by
   simp only [pds, List.map_cons, RepL]
   refine ⟨_, _, rfl, ?_, rep_pds (l := l)⟩
   simp only [pD, Rep, RepL]
   exact ⟨pC x, rfl, ⟨_, _, rfl, rfl, _, _, rfl, rfl, rfl⟩, by simp [pC, Value.oneCell']⟩
theorem VZ (l : List Pt) : flat (l.map pV) = l.flatMap pC := by
 simp only [flat, List.flatMap_map]
 rfl
theorem Qp (l : List Pt) : (l.flatMap pC).length = l.length * 2 := by
 induction l with
 | nil => rfl
 | cons x l ih => simp only [List.flatMap_cons, List.length_append, ih, List.length_cons]; simp [pC]; omega
theorem sized_pds (l : List Pt) : sized 2 (l.map pV) := fun v hv => by
 obtain ⟨r, _, rfl⟩ := List.mem_map.1 hv
 exact ⟨rfl, fun c hc => by simp [pV, Value.cells, pC] at hc; rcases hc with rfl | rfl <;> rfl⟩
theorem V2 : ∀ (l : List Pt) (t : Nat), t < l.length * 2 → (l.flatMap pC)[t]? = some (pC (l[t / 2]!))[t % 2]!
 | [], t, h => by simp at h
 | x :: l, t, h => by
   rw [List.flatMap_cons]
   by_cases ht : t < 2
   ·rw [List.getElem?_append_left (by simpa [pC] using ht), Nat.div_eq_of_lt ht, Nat.mod_eq_of_lt ht]
    have : (pC x)[t]? = some (pC x)[t]! := by
     rw [List.getElem?_eq_getElem (by simpa [pC] using ht), getElem!_pos (pC x) t (by simpa [pC] using ht)]
    simpa using this
   ·obtain ⟨u, rfl⟩ : ∃ u, t = u + 2 := ⟨t - 2, by omega⟩
    rw [List.getElem?_append_right (by simp [pC]), show u + 2 - (pC x).length = u from by simp [pC], V2 l u (by simp at h; omega), Nat.add_div_right u (by omega), Nat.add_mod_right]
    simp
theorem flatK_listP (d : Array Pt) : (flatK pC 2 d).toList = d.toList.flatMap pC := by
 refine List.ext_getElem? fun t => ?_
 by_cases ht : t < d.size * 2
 ·rw [V2 d.toList t (by simpa using ht)]
  have h1 := get_flatK pC 2 d t ht
  rw [Array.getElem?_toList, Array.getElem?_eq_getElem (by simpa using ht)]
  rw [getElem!_pos (flatK pC 2 d) t (by simpa using ht)] at h1
  rw [h1]
  have hq : t / 2 < d.size := by omega
  rw [getElem!_pos d _ hq, getElem!_pos d.toList _ (by simpa using hq), Array.getElem_toList]
 ·rw [List.getElem?_eq_none (by simp; omega), List.getElem?_eq_none (by rw [Qp]; simp; omega)]
theorem pds_holds {K : Kn} {pl : Pl} {w : World} {bx : List Ent} {k ver : Nat} {e : TypeId} {l : List Pt} (htab : Tab K pl w bx) (hk : bx[k]? = some (.arr e 2 ver (pds l))) (hne : l ≠ []) :
  ∃ g cap cur, pl k ver = some (.slice (some ⟨g, 0, none⟩) l.length cap) ∧ w.heap[g]? = some (.cells cur e (0, 0)) ∧ g < w.heap.size ∧ l.length ≤ cap ∧ cap ≤ maxLen ∧ cur.size = cap * 2 ∧ HoldsK pC 2 w g 0 l.toArray := by
 obtain ⟨v0, vs, h1, h2, h3, h4, h5, h6, h7⟩ := htab.ok k _ hk
 have e0 := pds_rep h3
 subst e0
 rw [VZ, kV] at h2
 obtain ⟨q1, q2⟩ := h2
 rcases q2 with ⟨_, q2⟩ | ⟨g, cap, cur, rfl, _, q4, q5, q6, q7, q8⟩
 ·exact absurd (List.eq_nil_of_length_eq_zero q2) hne
 refine ⟨g, cap, cur, h1, q4, (Array.getElem?_eq_some_iff.1 q4).1, q5, q6, q7, fun j hj => ?_⟩
 have hj' : j < l.length * 2 := by simpa using hj
 refine ⟨?_, by rw [Nat.zero_add]; exact Q7 q4 j⟩
 have := congrArg (fun x => x[j]?) q8
 rw [List.getElem?_take_of_lt hj'] at this
 rw [Nat.zero_add, ja4 q4, ← Array.getElem?_toList, this, V2 l j hj', get_flatK pC 2 _ j (by simpa using hj')]
 simp
def pdqP (cf : Pt → Pt → Int) (l : List Pt) : List Pt := (pdq (ltOf cf) l.toArray 0 l.toArray.size (Lib.bitLen l.toArray.size) true true).toList
theorem YB {lt : Pt → Pt → Bool} {l : List Pt} {d : Array Pt} (h1 : PermIn 0 l.toArray.size l.toArray d) (h3 : SortedIn lt 0 l.toArray.size d) : d.toList.length = l.length ∧ d.toList.Perm l ∧ d.toList.Pairwise (fun a b => lt b a = false) := by
 obtain ⟨h1, _, h2⟩ := h1
 have hz : d.toList.length = l.length := by simpa using h1
 refine ⟨hz, ?_, List.pairwise_iff_getElem.2 fun i j hi hj hij => ?_⟩
 ·rw [Array.extract_size] at h2
  rw [← h1, Array.extract_size] at h2
  exact h2
 ·have := h3 i j (Nat.zero_le _) hij (by rw [← h1]; simpa using hj)
  rw [getElem!_pos d i (by simpa using hi), getElem!_pos d j (by simpa using hj)] at this
  rw [Array.getElem_toList, Array.getElem_toList]
  exact this
theorem Q4 {cf : Pt → Pt → Int} (hO : SWO (ltOf cf)) (l : List Pt) : (pdqP cf l).length = l.length ∧ (pdqP cf l).Perm l ∧ (pdqP cf l).Pairwise (fun a b => ltOf cf b a = false) := by
 obtain ⟨h1, h3⟩ := pdq_sorts (ltOf cf) hO l.toArray 0 l.toArray.size (Lib.bitLen l.toArray.size) true true (Nat.zero_le _) (Nat.le_refl _) (Or.inl rfl)
 exact YB h1 h3
theorem pdqP_nil (cf : Pt → Pt → Int) (hO : SWO (ltOf cf)) : pdqP cf [] = [] := List.eq_nil_of_length_eq_zero (Q4 hO []).1
theorem sm_sortGP {g : Nat} {cf : Pt → Pt → Int} (hO : SWO (ltOf cf)) (eg : ∀ args w, (callFunc g args).run Tryz.prog w = .ok (.enter g args) w)
  (hc : ∀ (x y : Pt) (W : World), Calls Tryz.prog g #[pV x, pV y] W fun e w' => e = .returned (.int .i64 (cf x y)) ∧ ∃ q os', w' = grow (W.drewN q) os')
  {l : List Pt} {ver : Nat} (hl : l.length < 4611686018427387904) : TSpM 185 [.own 0 ver, .fn g []] [.arr 285 2 ver (pds l)] (.tup []) [.arr 285 2 ver (pds (pdqP cf l))] := by
 refine ⟨⟨_, Tryz.func185, by kernel_rfl, by kernel_rfl⟩, fun K pl w vs hmod hglob htab hrep => ?_⟩
 obtain ⟨vs⟩ := vs
 simp only [RepL, Rep] at hrep
 obtain ⟨v, _, rfl, ⟨hv, a, n, c, rfl⟩, f, _, rfl, ⟨cs, rfl, rfl⟩, rfl⟩ := hrep
 by_cases hne : l = []
 ·subst hne
  obtain ⟨v0, vs, h1, h2, h3, h4, h5, h6, h7⟩ := htab.ok 0 _ rfl
  rw [hv] at h1
  injection h1 with h1
  subst h1
  have hn : n = 0 := by
   rcases h2.2 with ⟨h, _⟩ | ⟨g, cap, cur, h, _⟩ <;> (injection h with h8 h9 h10)
  subst hn
  refine (AnyF.slices_SortFunc_none Tryz.sortP a c _ w).mono ?_
  rintro e w' ⟨rfl, rfl⟩
  exact ⟨_, K, pl, rfl, by have := Inv.start (gt := gtab) hmod hglob htab; rw [pdqP_nil cf hO]; exact this, by simp [Rep, RepL]⟩
 ·obtain ⟨g', cap, cur, h1, h2, h3, h4, h5, h6, h7⟩ := pds_holds htab (k := 0) rfl hne
  rw [hv] at h1
  injection h1 with h1
  injection h1 with h8 h9 h10
  subst h8 h9 h10
  have hcmp : CmpLays Tryz.prog g #[] pC 2 cf g' 0 l.toArray.size w := fun m os dk hs x y => hc x y _
  have hgot := AnyQ.slices_SortFunc_eq Tryz.sortP 2 Tryz.isAgg285 Tryz.sizeOf285 pC (fun _ => rfl) (fun x v hv => by simp [pC] at hv; rcases hv with rfl | rfl <;> rfl) cf hO g #[] g' 0 c l.toArray w eg hcmp h7 h3 (by simpa using hl)
  refine hgot.mono ?_
  rintro e w' ⟨rfl, n, os, rfl⟩
  have hpl : (pdqP cf l).length = l.length := (Q4 hO l).1
  have hd : (pdq (ltOf cf) l.toArray 0 l.toArray.size (Lib.bitLen l.toArray.size) true true) = (pdqP cf l).toArray := by simp [pdqP]
  rw [hd]
  unfold sortWorldK putRowK
  have hsz : (flatK pC 2 (pdqP cf l).toArray).size ≤ cur.size := by simp [hpl, h6]; omega
  have hput := yL (enc := id) (off := 0) (d := flatK pC 2 (pdqP cf l).toArray) (w := Sort.ahead w n) h2
  refine ⟨_, K, pl, rfl, VL hmod hglob htab (k := 0) (xs := pds l) (xs' := pds (pdqP cf l)) rfl (by rw [kV]; exact hv) (by cases l with | nil => exact absurd rfl hne | cons a r => simp [pds]) (cap := c)
   (by rw [Sort.heap_grow_old _ os (by rw [Go.Sort.size_putRow]; exact h3)]; exact hput) (by rw [xc, h6]) h5 (by rw [kV]; exact h4) (by simp [kV, hpl]) rep_pds (sized_pds _) (by rw [VZ, Qp, kV])
   (by rw [VZ, kV]; have := v8 id (flatK pC 2 (pdqP cf l).toArray) cur hsz; rw [flatK_listP] at this; simpa using this)
   ⟨rfl, rfl, rfl, by rw [Sort.size_grow, Go.Sort.size_putRow]; exact Nat.le_add_right _ _, fun b hb hn => by rw [Sort.heap_grow_old _ os (by rw [Go.Sort.size_putRow]; exact hb), xW _ _ _ _ _ _ hn]; rfl⟩, by simp [Rep, RepL]⟩
def cfP (a b : Pt) : Int := Lib.compareInt a.1 b.1
theorem ltP (a b : Pt) : ltOf cfP a b = true ↔ a.1 < b.1 := by
 unfold ltOf cfP
 rw [decide_eq_true_iff]
 rcases J4 a.1 b.1 with ⟨h2, h2'⟩ | ⟨h2, h2'⟩ | ⟨h2, h2'⟩ <;> rw [h2] <;> simp <;> omega
theorem swoP : SWO (ltOf cfP) := by
 refine ⟨fun x => ?_, fun x y z h1 h2 => ?_, fun x y z h1 h2 => ?_⟩
 ·rw [← Bool.not_eq_true, ltP]; omega
 ·rw [ltP] at h1 h2 ⊢; omega
 ·rw [← Bool.not_eq_true, ltP] at h1 h2 ⊢; omega
def srtP (l : List Pt) : List Pt := pdqP cfP l
theorem sm_SortP {l : List Pt} {ver : Nat} (hl : l.length < 4611686018427387904) : TSpM 185 [.own 0 ver, .fn 186 []] [.arr 285 2 ver (pds l)] (.tup []) [.arr 285 2 ver (pds (srtP l))] :=
 sm_sortGP swoP (enters_of Tryz.func186 (by kernel_rfl) (Option.some_get (x := Tryz.f186.body) (by kernel_rfl)).symm) (fun x y W => Zz.closureP x y W) hl
theorem JU (l : List Pt) : (srtP l).length = l.length ∧ (srtP l).Perm l ∧ (srtP l).Pairwise (fun a b => a.1 ≤ b.1) := by
 obtain ⟨h1, h2, h3⟩ := Q4 swoP l
 exact ⟨h1, h2, h3.imp fun h => by rw [← Bool.not_eq_true, ltP] at h; omega⟩
end Go.AM

