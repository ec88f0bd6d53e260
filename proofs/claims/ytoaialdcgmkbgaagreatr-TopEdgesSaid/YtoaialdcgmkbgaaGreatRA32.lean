import Derived.Test.YtoaialdcgmkbgaaGreatRA31

set_option linter.all false
namespace Go.AM
open Go Go.RowKit
section
variable {P : Program} {gt : Nat → Option (List D)} {f : Nat} {ds : List D} {dst : Option Nat} {g : G} {os : List O} {st : St} {K : St → Prop}
end
def tblE (e : TypeId) (sz : Nat) (T : Nat → Nat × List D) (n : Nat) : List Ent := (List.range n).map fun i => .arr e sz (T i).1 (T i).2
def owns (k : Nat) (T : Nat → Nat × List D) (n : Nat) : List D := (List.range n).map fun i => .own (i + k) (T i).1
def lsT (sz : Nat) (T : Nat → Nat × List D) (n : Nat) : List D := (List.range n).map fun i => .ls sz (T i).2
def setT (T : Nat → Nat × List D) (i : Nat) (x : Nat × List D) : Nat → Nat × List D := fun j => if j = i then x else T j
theorem Z9 (e : TypeId) (sz : Nat) (T : Nat → Nat × List D) (n : Nat) : (tblE e sz T n).length = n := by simp [tblE]
theorem Jc {e : TypeId} {sz : Nat} {T : Nat → Nat × List D} {n i : Nat} (h : i < n) : (tblE e sz T n)[i]? = some (.arr e sz (T i).1 (T i).2) := by simp [tblE, h]
theorem Qk {k : Nat} {T : Nat → Nat × List D} {n i : Nat} (h : i < n) : (owns k T n)[i]? = some (.own (i + k) (T i).1) := by simp [owns, h]
theorem tblE_set {e : TypeId} {sz : Nat} {T : Nat → Nat × List D} {n i : Nat} (x : Nat × List D) : (tblE e sz T n).set i (.arr e sz x.1 x.2) = tblE e sz (setT T i x) n := by
 apply List.ext_getElem? ; intro j
 by_cases hj : j < n
 ·rw [Jc hj, List.getElem?_set]
  by_cases h : i = j
  ·subst h; simp [Z9, hj, setT]
  ·rw [if_neg h, Jc hj]; simp [setT, Ne.symm h]
 ·rw [List.getElem?_eq_none (by simp [tblE]; omega), List.getElem?_eq_none (by simp [tblE]; omega)]
theorem owns_set {k : Nat} {T : Nat → Nat × List D} {n i : Nat} (x : Nat × List D) : (owns k T n).set i (.own (i + k) x.1) = owns k (setT T i x) n := by
 apply List.ext_getElem? ; intro j
 by_cases hj : j < n
 ·rw [Qk hj, List.getElem?_set]
  by_cases h : i = j
  ·subst h; simp [owns, hj, setT]
  ·rw [if_neg h, Qk hj]; simp [setT, Ne.symm h]
 ·rw [List.getElem?_eq_none (by simp [owns]; omega), List.getElem?_eq_none (by simp [owns]; omega)]
section
variable {P : Program} {gt : Nat → Option (List D)} {t e : TypeId}
theorem Inv.addNil2 {F : Fr} {K : Kn} {pl : Pl} {bx : List Ent} {w : World} (hi : Inv F K pl bx w) (et : TypeId) (sz : Nat) : PLe pl (kZ pl bx.length 0 (.slice none 0 0)) ∧ Inv F K (kZ pl bx.length 0 (.slice none 0 0)) (bx ++ [.arr et sz 0 []]) w :=
 hi.add (w' := w) (.slice none 0 0) (.arr et sz 0 []) (.inl (by simp [kz, kD, blkV])) (Chg.refl _ _) (by
  refine ⟨.slice none 0 0, [], kD _ _ _ _, World.ownsRow_nil _ _ _ _, by simp [RepL], fun v hv => (by cases hv), by simp [Value.ownBlock], fun ver' hv => ?_, fun _ _ => rfl⟩
  rw [kU (.inr (by omega))]
  exact hi.tab.free _ _ (Nat.le_refl _))
theorem Inv.addNils {F : Fr} {K : Kn} {w : World} (e : TypeId) (sz : Nat) : ∀ (n : Nat) {pl : Pl} {bx : List Ent}, Inv F K pl bx w →
  ∃ pl', PLe pl pl' ∧ Inv F K pl' (bx ++ List.replicate n (.arr e sz 0 [])) w ∧ (∀ i, i < n → pl' (bx.length + i) 0 = some (.slice none 0 0)) ∧ (∀ k ver, k < bx.length → pl' k ver = pl k ver)
 | 0, pl, bx, h => ⟨pl, PLe.refl _, by simpa using h, by omega, fun _ _ _ => rfl⟩
 | n + 1, pl, bx, h => by
   obtain ⟨h1, h2⟩ := h.addNil2 e sz
   obtain ⟨pl', h3, h4, h5, h6⟩ := Inv.addNils e sz n h2
   refine ⟨pl', h1.trans h3, by simpa [List.replicate_succ] using h4, fun i hi => ?_, fun k ver hk => ?_⟩
   ·rcases i with _ | i
    ·rw [h6 _ _ (by simp)]; exact kD _ _ _ _
    ·have := h5 i (by omega)
     rw [← this]; congr 1; simp; omega
   ·rw [h6 _ _ (by simp; omega), kU (.inl (by omega))]
theorem tblE_nil (e : TypeId) (sz n : Nat) : tblE e sz (fun _ => (0, [])) n = List.replicate n (.arr e sz 0 []) := by
 apply List.ext_getElem? ; intro j
 by_cases hj : j < n
 ·rw [Jc hj]; simp [List.getElem?_replicate, hj]
 ·rw [List.getElem?_eq_none (by simp [tblE]; omega), List.getElem?_eq_none (by simp; omega)]
theorem RepL_owns {K : Kn} {pl : Pl} {k n : Nat} (h : ∀ i, i < n → pl (i + k) 0 = some (.slice none 0 0)) : RepL K pl (owns k (fun _ => (0, [])) n) (List.replicate n (.slice none 0 0)) := by
 induction n with
 | zero => simp [owns, RepL]
 | succ n ih =>
   have e1 : owns k (fun _ => (0, ([] : List D))) (n + 1) = owns k (fun _ => (0, [])) n ++ [.own (n + k) 0] := by simp [owns, List.range_succ]
   rw [e1, List.replicate_succ']
   refine (ih fun i hi => h i (by omega)).append ?_
   simp only [RepL, Rep]
   exact ⟨_, _, rfl, ⟨h n (by omega), none, 0, 0, rfl⟩, rfl⟩
theorem pr_mkd {bx : List Ent} {i : TypeInfo} {e2 : TypeId} {sz2 n : Nat} {kl kc : IntKind} (hu : P.underlying t = some (.slice e)) (hi : P.info? e = some i) (hz : i.zero = some (.slice none 0 0)) (hsz : i.size = 1) (hby : i.bytes ≤ 65536) (hn : n ≤ 65536) :
  PrM P gt (.mkd t) [.int kl n, .int kc n] bx (.bsl (j0 bx) 0 1 n) (bx ++ .cells (owns (j0 bx + 1) (fun _ => (0, [])) n) :: tblE e2 sz2 (fun _ => (0, [])) n) := by
 refine PrM.of ?_
 intro F K pl w o ρ xs hF hρ hI hq hr
 match xs, hq with
 | [x, y], hq =>
   have ho : o.op = .makeSlice t x y := by simpa [Pr.op] using hq.symm
   obtain ⟨hx, hy⟩ := XX hr
   simp only [Rep] at hx hy
   have hrun := run_make (P := P) w t e i (.slice none 0 0) hu hi hz kl kc n n (by omega) (Int.le_refl _) (by
    have : (i.bytes : Int) * n ≤ 65536 * 65536 := Int.mul_le_mul (by omega) (by omega) (by omega) (by omega)
    omega) (by omega)
   rw [kR]
   obtain ⟨pv, hpv⟩ : ∃ pv : Value, pv = .pointer (some ⟨w.heap.size, 0, none⟩) := ⟨_, rfl⟩
   obtain ⟨g1, g2⟩ := hI.add (w' := w) pv .gone (.inl rfl) (Chg.refl _ _) trivial
   obtain ⟨pl', g3, g4, g5, g6⟩ := Inv.addNils e2 sz2 n g2
   have hk : (bx ++ [Ent.gone] ++ List.replicate n (.arr e2 sz2 0 []))[bx.length]? = some .gone := by simp
   have hp0 : pl' bx.length 0 = some (.pointer (some ⟨w.heap.size, 0, none⟩)) := by rw [g6 _ _ (by simp), kD, hpv]
   have hcs : (madeCells (Value.slice none 0 0).cells (n * i.size)).toList = List.replicate n (.slice none 0 0) := by
    apply List.ext_getElem?
    intro j
    rw [hsz, Nat.mul_one, Array.getElem?_toList]
    by_cases hj : j < n
    ·simp [madeCells, hj, Value.cells, Nat.mod_one]
    ·rw [Array.getElem?_eq_none (by rw [size_madeCells]; omega), List.getElem?_eq_none (by simp; omega)]
   have hup := g4.upd (w' := w.alloc (.cells (madeCells (Value.slice none 0 0).cells (n * i.size)) e)) (e' := .cells (owns (bx.length + 1) (fun _ => (0, [])) n)) hk (PLe.refl _) (fun _ _ _ => rfl)
    (fun b hb => by simp [kz, hp0, blkV] at hb; exact .inr (by omega)) ((Chg.alloc w _).trans (Chg.refl (fun _ => False) _) (fun _ _ h => h.elim) |> fun h => ⟨h.os, h.tape, h.output, h.size, fun k hk' _ => h.block k hk' id⟩)
    ⟨w.heap.size, e, List.replicate n (.slice none 0 0), hp0, g4.fresh, by rw [vN, ← hcs], by
      have := RepL_owns (K := K) (pl := pl') (k := bx.length + 1) (n := n) fun j hj => by
       have := g5 j hj
       rw [Nat.add_comm j]
       simpa [Nat.add_assoc] using this
      exact this, fun c hc => by rw [List.eq_of_mem_replicate hc]; rfl⟩
   have hnn : ((n : Nat) : Int).toNat = n := Int.toNat_natCast n
   rw [hnn] at hrun
   refine ⟨.slice (some ⟨w.heap.size, 0, none⟩) n n, w.alloc (.cells (madeCells (Value.slice none 0 0).cells (n * i.size)) e), K, pl', .inl ?_, KLe.refl _, g1.trans g3, ?_, ?_⟩
   ·simp [execOp, ho, hx, hy, hrun]
   ·rw [tblE_nil]
    simpa [List.set_append] using hup
   ·simp only [Rep]
    exact ⟨_, 0, n, hp0, rfl, Nat.le_refl _, .inr rfl⟩
 | [], hq => simp [Pr.op] at hq
 | [_], hq => simp [Pr.op] at hq
 | _ :: _ :: _ :: _, hq => simp [Pr.op] at hq
theorem Rt.give {n0 : Nat} {bx : List Ent} {d : D} {k j i : Nat} {l : List D} {e : TypeId} {sz ver : Nat} {rows : List D} (hk : bx[k]? = some (.cells l)) (hj : bx[j]? = some (.arr e sz ver rows)) (hi : l[i]? = some (.own j ver)) :
  Rt n0 bx d d ((bx.set j .gone).set k (.cells (l.set i (.ls sz rows)))) := fun F K pl w v _ hI hr => by
 have hkj : k ≠ j := fun h => by subst h; rw [hk] at hj; cases hj
 obtain ⟨K', h1, h2, h3⟩ := hI.give hj
 refine ⟨K', pl, ?_, Rep.mono h1 (PLe.refl _) _ _ hr⟩
 have hk2 : (bx.set j .gone)[k]? = some (.cells l) := by rw [List.getElem?_set_ne (Ne.symm hkj)]; exact hk
 obtain ⟨b, T, cs, g1, g2, g3, g4, g5⟩ := h2.tab.ok k _ hk2
 obtain ⟨v1, g6, g7⟩ := RepL.get i g4 hi
 refine h2.upd hk2 (PLe.refl _) (fun _ _ _ => rfl) (fun b hb => .inl hb) (Chg.refl _ _) ⟨b, T, cs, g1, g2, g3, ?_, g5⟩
 simp only [Rep] at g7
 have hs := RepL.set (d := .ls sz rows) (v := v1) i g4 (Rep.mono (KLe.refl _) (PLe.zero _) _ _ (h3 _ g7.1))
 have : cs.set i v1 = cs := by
  apply List.ext_getElem?; intro m
  rw [List.getElem?_set]
  by_cases h : i = m
  ·subst h
   have := (List.getElem?_eq_some_iff.1 g6).1
   have h9 := (List.getElem?_eq_some_iff.1 g6).2
   simp [this, h9]
  ·simp [h]
 rwa [this] at hs
theorem Rt.cellsLs {n0 : Nat} {bx : List Ent} {k : Nat} {l : List D} (hk : bx[k]? = some (.cells l)) (hc : jH l = true) : Rt n0 bx (.bsl k 0 1 l.length) (.ls 1 l) (bx.set k .gone) := fun F K pl w v _ hI hr => by
 have hone : ∀ u : Value, u.oneCell' = true → u.cells = #[u] := fun u hu => by cases u <;> first | rfl | (simp [Value.oneCell'] at hu)
 obtain ⟨b, T, cs, g1, g2, g3, g4, g5⟩ := hI.tab.ok k _ hk
 have hle := Z6 (o := .cells cs.toArray T (0, 0)) g2
 refine ⟨addK K b (.cells cs.toArray T (0, 0)), pl, hI.leave hk hle (fun c o hb => ?_) (fun c o hb => ?_), ?_⟩
 ·unfold addK at hb
  split at hb
  ·rename_i e1; cases hb; rw [e1]; exact g3
  ·exact hI.mod c o hb
 ·unfold addK at hb
  split at hb
  ·rename_i e1; right; rw [e1]; simp [kz, g1, blkV]
  ·exact .inl hb
 ·simp only [Rep] at hr ⊢
  obtain ⟨b', o, cap, h1, h2, h3, h4⟩ := hr
  rw [g1] at h1
  injection h1 with h1; injection h1 with h1; injection h1 with h1; injection h1 with h1
  subst h1
  refine ⟨_, _, _, h2, rfl, h3, nofun, ?_⟩
  rcases h4 with h4 | rfl
  ·exact .inl (List.eq_nil_of_length_eq_zero h4)
  ·refine .inr ⟨b, 0, cs, rfl, RepL.mono hle (PLe.refl _) _ _ (qH _ _ hc g4), cs.toArray, T, (0, 0), by simp [addK], fun u hu => ⟨by rw [hone u (g5 u hu)]; rfl, fun c hcc => ?_⟩, ?_⟩
   ·have := hone _ (g5 u hu)
    rw [this] at hcc
    simp at hcc; rw [hcc]; exact g5 u hu
   ·have : flat cs = cs := by
     clear g4 g3 hle
     unfold flat
     induction cs with
     | nil => rfl
     | cons u cs ih =>
       rw [List.flatMap_cons, ih fun c hc => g5 c (by simp [hc]), hone u (g5 u (by simp))]
       rfl
    rw [this]; simp
theorem Rt.table {n0 : Nat} {pre : List Ent} {T : Nat → Nat × List D} {n : Nat} {e : TypeId} {sz : Nat} (hT : ∀ i, jH (T i).2 = true) (h0 : n0 ≤ pre.length) (hlow : lowB pre.length pre = true) :
  Rt n0 (pre ++ .cells (owns (pre.length + 1) T n) :: tblE e sz T n) (.bsl pre.length 0 1 n) (.ls 1 (lsT sz T n)) pre := by
 -- one by one
 have step : ∀ m, m ≤ n → ∃ es l, es.length = n ∧ l.length = n ∧ (∀ i, i < m → l[i]? = some (.ls sz (T i).2)) ∧ (∀ i, m ≤ i → i < n → l[i]? = some (.own (i + (pre.length + 1)) (T i).1) ∧ es[i]? = some (.arr e sz (T i).1 (T i).2)) ∧
   Rt n0 (pre ++ .cells (owns (pre.length + 1) T n) :: tblE e sz T n) (.bsl pre.length 0 1 n) (.bsl pre.length 0 1 n) (pre ++ .cells l :: es) := by
  intro m
  induction m with
  | zero => intro _; exact ⟨tblE e sz T n, owns (pre.length + 1) T n, Z9 .., by simp [owns], by omega, fun i _ hi => ⟨Qk hi, Jc hi⟩, Rt.id⟩
  | succ m ih =>
    intro hm
    obtain ⟨es, l, h1, h2, h3, h4, h5⟩ := ih (by omega)
    obtain ⟨h6, h7⟩ := h4 m (Nat.le_refl _) (by omega)
    have hk : (pre ++ .cells l :: es)[pre.length]? = some (.cells l) := by simp
    have hj : (pre ++ .cells l :: es)[m + (pre.length + 1)]? = some (.arr e sz (T m).1 (T m).2) := by
     rw [List.getElem?_append_right (by omega), show m + (pre.length + 1) - pre.length = m + 1 by omega, List.getElem?_cons_succ]; exact h7
    refine ⟨es.set m .gone, l.set m (.ls sz (T m).2), by simpa using h1, by simpa using h2, fun i hi => ?_, fun i hi hn => ?_, h5.trans ?_⟩
    ·rw [List.getElem?_set]
     by_cases h : m = i
     ·subst h; simp [h2]; omega
     ·rw [if_neg h]; exact h3 i (by omega)
    ·rw [List.getElem?_set_ne (by omega), List.getElem?_set_ne (by omega)]
     exact h4 i (by omega) hn
    ·have := Rt.give (n0 := n0) (d := .bsl pre.length 0 1 n) hk hj h6
     rwa [List.set_append_right _ _ (by omega), show m + (pre.length + 1) - pre.length = m + 1 by omega, List.set_cons_succ, List.set_append_right _ _ (Nat.le_refl _), Nat.sub_self, List.set_cons_zero] at this
 obtain ⟨es, l, h1, h2, h3, _, h5⟩ := step n (Nat.le_refl _)
 have hl : l = lsT sz T n := by
  apply List.ext_getElem?; intro i
  by_cases hi : i < n
  ·rw [h3 i hi]; simp [lsT, hi]
  ·rw [List.getElem?_eq_none (by omega), List.getElem?_eq_none (by simp [lsT]; omega)]
 subst hl
 have hcl : jH (lsT sz T n) = true := by
  unfold lsT
  generalize List.range n = r
  induction r with
  | nil => rfl
  | cons a r ih => simp only [List.map_cons, jH, closed, qh]; exact ⟨trivial, ih⟩
 have hk : (pre ++ .cells (lsT sz T n) :: es)[pre.length]? = some (.cells (lsT sz T n)) := by simp
 have h6 := Rt.cellsLs (n0 := n0) hk hcl
 rw [h2] at h6
 refine (h5.trans h6).trans (Rt.cut h0 ?_ hlow rfl)
 rw [List.set_append_right _ _ (Nat.le_refl _)]
 exact qK pre _
end
end Go.AM


set_option linter.all false
namespace Go.AM
open Go Go.RowKit
theorem Rt.pick {bx es : List Ent} {d1 d : D} (ks : List Nat) (h1 : d1 = renD ks (j0 bx) d) (h2 : j6 bx ks = some (j3 ks (j0 bx) es)) (hk : okKs ks = true) : Rt 0 bx d1 d es := by
 rw [kR] at h1 h2
 intro F K pl w v h0 hI hr
 subst h1
 obtain ⟨hel, hget⟩ := Q9 (n := bx.length) h2
 rw [yl] at hel
 have htab := hI.tab
 have hlt : ∀ k ∈ ks, k < bx.length := fun k hkm => by
  obtain ⟨j, hj, hjk⟩ := YJ (n := bx.length) hkm
  have hj' : j < es.length := by omega
  have := hget j _ (xL (List.getElem?_eq_getElem hj'))
  rw [hjk] at this
  exact (List.getElem?_eq_some_iff.1 this).1
 let plc : Pl := fun j ver => if j < ks.length then pl (rho ks bx.length j) ver else none
 have hplc : ∀ j ver x, pl (rho ks bx.length j) ver = some x → plc j ver = some x := fun j ver x hx => by
  by_cases hj : j < ks.length
  ·simpa [plc, hj] using hx
  ·rw [Q0 (by omega), htab.free _ _ (by omega)] at hx; cases hx
 have hplj : ∀ j, j < ks.length → ∀ ver, plc j ver = pl (rho ks bx.length j) ver := fun j hj ver => by simp [plc, hj]
 have hesk : ∀ j e, es[j]? = some e → j < ks.length ∧ bx[rho ks bx.length j]? = some (renE ks bx.length e) := fun j e he =>
  ⟨by rw [← hel]; exact (List.getElem?_eq_some_iff.1 he).1, hget j _ (xL he)⟩
 have hinj : ∀ i j, rho ks bx.length i = rho ks bx.length j → i = j := fun i j hij => by
  have h3 := Jl (n := bx.length) (j := i) hk hlt
  rw [hij, Jl hk hlt] at h3; cases h3; rfl
 refine ⟨K, plc, ⟨hI.chg, hI.mod, hI.le, hI.new, ⟨fun j e he => ?_, fun i j e f b hij hi hj hb hb' => ?_, fun j ver hj => by simp [plc]; omega⟩, fun j e b he hb => ?_, by rw [h0]; exact Nat.zero_le _, fun k ver x hk' => by rw [h0] at hk'; omega, hI.glob⟩, renD_rep hplc _ _ hr⟩
 ·obtain ⟨h3, h4⟩ := hesk j e he
  exact (htab.ok _ _ h4).ren (hplj j h3) hplc
 ·obtain ⟨h3, h4⟩ := hesk i e hi
  obtain ⟨h5, h6⟩ := hesk j f hj
  rw [vG (hplj i h3)] at hb
  rw [vG (hplj j h5)] at hb'
  exact htab.sep _ _ _ _ b (fun e => hij (hinj i j e)) h4 h6 hb hb'
 ·obtain ⟨h3, h4⟩ := hesk j e he
  rw [vG (hplj j h3)] at hb
  exact hI.own _ _ b h4 hb
end Go.AM


set_option linter.all false
namespace Go.AM
open Go Go.RowKit
section
variable {P : Program} {gt : Nat → Option (List D)} {t u : TypeId}
theorem pr_quo {bx : List Ent} {a b : Int} (hb : 0 < b) (hf : fits .i64 (Int.tdiv a b)) : PrM P gt (.tdv false t u) [.int .i64 a, .int .i64 b] bx (.int .i64 (Int.tdiv a b)) bx := by
 refine PrM.of ?_
 intro F K pl w o ρ xs hF hρ hI hq hr
 match xs, hq with
 | [x, y], hq =>
   have ho : o.op = .binOp .quo t x y u := by simpa [Pr.op] using hq.symm
   obtain ⟨hx, hy⟩ := XX hr
   simp only [Rep] at hx hy
   have h4 : ¬ b = 0 := by omega
   refine ⟨.int .i64 (Int.tdiv a b), w, K, pl, .inl ?_, KLe.refl _, PLe.refl _, hI, by simp only [Rep]⟩
   have h3 : (binOp .quo t (.int .i64 a) (.int .i64 b)).run P w = .ok (.int .i64 (Int.tdiv a b)) w := by simp [binOp, Op.intDiv, h4, zl hf]
   have hq : (eqGuard .quo t x y (.int .i64 a) (.int .i64 b)).run P w = .ok () w := by
    unfold eqGuard
    split <;> simp
   simp [execOp, ho, hx, hy, Sem.run_bind, hq, h3]
 | [], hq => simp [Pr.op] at hq
 | [_], hq => simp [Pr.op] at hq
 | _ :: _ :: _ :: _, hq => simp [Pr.op] at hq
theorem pr_rem {bx : List Ent} {a b : Int} (hb : 0 < b) : PrM P gt (.tdv true t u) [.int .i64 a, .int .i64 b] bx (.int .i64 (Int.tmod a b)) bx := by
 refine PrM.of ?_
 intro F K pl w o ρ xs hF hρ hI hq hr
 match xs, hq with
 | [x, y], hq =>
   have ho : o.op = .binOp .rem t x y u := by simpa [Pr.op] using hq.symm
   obtain ⟨hx, hy⟩ := XX hr
   simp only [Rep] at hx hy
   have h4 : ¬ b = 0 := by omega
   refine ⟨.int .i64 (Int.tmod a b), w, K, pl, .inl ?_, KLe.refl _, PLe.refl _, hI, by simp only [Rep]⟩
   have h3 : (binOp .rem t (.int .i64 a) (.int .i64 b)).run P w = .ok (.int .i64 (Int.tmod a b)) w := by simp [binOp, Op.intDiv, h4]
   have hq : (eqGuard .rem t x y (.int .i64 a) (.int .i64 b)).run P w = .ok () w := by
    unfold eqGuard
    split <;> simp
   simp [execOp, ho, hx, hy, Sem.run_bind, hq, h3]
 | [], hq => simp [Pr.op] at hq
 | [_], hq => simp [Pr.op] at hq
 | _ :: _ :: _ :: _, hq => simp [Pr.op] at hq
end
end Go.AM

