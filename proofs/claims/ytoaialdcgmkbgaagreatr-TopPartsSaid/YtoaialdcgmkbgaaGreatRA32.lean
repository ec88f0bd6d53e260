import Derived.Test.YtoaialdcgmkbgaaGreatRA31

set_option linter.all false
namespace Go.AM
open Go Go.RowKit
section
variable {P : Program} {gt : Nat -> Option (List D)} {f : Nat} {ds : List D} {dst : Option Nat} {g : G} {os : List O} {st : St} {K : St -> Prop}
theorem jM0 {n : Nat} {es : List Ent} {d : D} (h : SpM P gt f ds [] d es) (hn : es.length = n) (h1 : ∀ ks m, ds = renL ks m ds) (h4 : ∀ s m, renD (newN s n) m d = renD [] s d) (h5 : ∀ s m, j0 (newN s n) m es = j0 [] s es)
  (hk : kV (SpC P gt) gt os K ⟨putE dst g (renD [] (jZ st.bx) d) st.env, List.append st.bx (j0 [] (jZ st.bx) es)⟩) : jH5 (SpC P gt) gt n f ds dst g os st K := by
 have h0 := SpM.own (bx := st.bx) h [] (h1 _ _) rfl rfl
 have e0 : jL st.bx [] (j0 [] (jZ st.bx) es) = List.append st.bx (j0 [] (jZ st.bx) es) := by rw [jL]
 rw [e0] at h0
 refine ⟨_, _, h0, ⟨fun t => ?_, j0 [] (jZ st.bx) es, rfl, by rw [QK, hn]⟩, hk⟩
 have h2 := h.fresh
 rw [hn] at h2
 have := SpM.own (bx := st.bx ++ (k9 n ++ t)) h2 (newN (jZ st.bx) n) (h1 _ _) (by rw [kH, Y3, Xn]) jf8
 rw [h4, h5, kH, Xr (by rw [QK, hn])] at this
 rw [kH]
 exact this
end
def tblE (e : TypeId) (sz : Nat) (T : Nat -> Nat × List D) (n : Nat) : List Ent := (List.range n).map fun i => .arr e sz (T i).1 (T i).2
def owns (k : Nat) (T : Nat -> Nat × List D) (n : Nat) : List D := (List.range n).map fun i => .own (i + k) (T i).1
def lsT (sz : Nat) (T : Nat -> Nat × List D) (n : Nat) : List D := (List.range n).map fun i => .ls sz (T i).2
theorem jM6 (e : TypeId) (sz : Nat) (T : Nat -> Nat × List D) (n : Nat) : (tblE e sz T n).length = n := by simp [tblE]
theorem jM7 {e : TypeId} {sz : Nat} {T : Nat -> Nat × List D} {n i : Nat} (h : i < n) : (tblE e sz T n)[i]? = some (.arr e sz (T i).1 (T i).2) := by simp [tblE, h]
theorem jQ4 {k : Nat} {T : Nat -> Nat × List D} {n i : Nat} (h : i < n) : (owns k T n)[i]? = some (.own (i + k) (T i).1) := by simp [owns, h]
section
variable {P : Program} {gt : Nat -> Option (List D)} {t e : TypeId}
theorem Rt.give {n0 : Nat} {bx : List Ent} {d : D} {k j i : Nat} {l : List D} {e : TypeId} {sz ver : Nat} {rows : List D} (hk : bx[k]? = some (.cells l)) (hj : bx[j]? = some (.arr e sz ver rows)) (hi : l[i]? = some (.own j ver)) :
  Rt n0 bx d d ((bx.set j .gone).set k (.cells (l.set i (.ls sz rows)))) := fun F K pl w v _ hI hr => by
 have hkj : k ≠ j := fun h => by subst h; rw [hk] at hj; cases hj
 obtain ⟨K', h1, h2, h3⟩ := hI.give hj
 refine ⟨K', pl, ?_, Rep.mono h1 (PLe.refl _) _ _ hr⟩
 have hk2 : (bx.set j .gone)[k]? = some (.cells l) := by rw [List.getElem?_set_ne (Ne.symm hkj)]; exact hk
 obtain ⟨b, T, cs, g1, g2, g3, g4, g5⟩ := h2.tab.ok k _ hk2
 obtain ⟨v1, g6, g7⟩ := RepL.get i g4 hi
 refine h2.upd hk2 (PLe.refl _) (fun _ _ _ => rfl) (fun b hb => .inl hb) (Chg.refl _ _) ⟨b, T, cs, g1, g2, g3, ?_, g5⟩
 simp only [Rep] at g7
 have hs := RepL.set (d := .ls sz rows) (v := v1) i g4 (Rep.mono (KLe.refl _) (PLe.zero _) _ _ (h3 _ g7.1))
 have : cs.set i v1 = cs := by
  apply List.ext_getElem?; intro m
  rw [List.getElem?_set]
  by_cases h : i = m
  ·subst h
   have := (List.getElem?_eq_some_iff.1 g6).1
   have h9 := (List.getElem?_eq_some_iff.1 g6).2
   simp [this, h9]
  ·simp [h]
 rwa [this] at hs
theorem Rt.cellsLs {n0 : Nat} {bx : List Ent} {k : Nat} {l : List D} (hk : bx[k]? = some (.cells l)) (hc : jy l = true) : Rt n0 bx (.bsl k 0 1 l.length) (.ls 1 l) (bx.set k .gone) := fun F K pl w v _ hI hr => by
 have hone : ∀ u : Value, u.oneCell' = true -> u.cells = #[u] := fun u hu => by cases u <;> first | rfl | (simp [Value.oneCell'] at hu)
 obtain ⟨b, T, cs, g1, g2, g3, g4, g5⟩ := hI.tab.ok k _ hk
 have hle := X5 (o := .cells cs.toArray T (0, 0)) g2
 refine ⟨addK K b (.cells cs.toArray T (0, 0)), pl, hI.leave hk hle (fun c o hb => ?_) (fun c o hb => ?_), ?_⟩
 ·unfold addK at hb
  split at hb
  ·rename_i e1; cases hb; rw [e1]; exact g3
  ·exact hI.mod c o hb
 ·unfold addK at hb
  split at hb
  ·rename_i e1; right; rw [e1]; simp [kr, g1, blkV]
  ·exact .inl hb
 ·simp only [Rep] at hr |-
  obtain ⟨b', o, cap, h1, h2, h3, h4⟩ := hr
  rw [g1] at h1
  injection h1 with h1; injection h1 with h1; injection h1 with h1; injection h1 with h1
  subst h1
  refine ⟨_, _, _, h2, rfl, h3, nofun, ?_⟩
  rcases h4 with h4 | rfl
  ·exact .inl (List.eq_nil_of_length_eq_zero h4)
  ·refine .inr ⟨b, 0, cs, rfl, RepL.mono hle (PLe.refl _) _ _ (qL _ _ hc g4), cs.toArray, T, (0, 0), by simp [addK], fun u hu => ⟨by rw [hone u (g5 u hu)]; rfl, fun c hcc => ?_⟩, ?_⟩
   ·have := hone _ (g5 u hu)
    rw [this] at hcc
    simp at hcc; rw [hcc]; exact g5 u hu
   ·have : flat cs = cs := by
     clear g4 g3 hle
     unfold flat
     induction cs with
     | nil => rfl
     | cons u cs ih =>
       rw [List.flatMap_cons, ih fun c hc => g5 c (by simp [hc]), hone u (g5 u (by simp))]
       rfl
    rw [this]; simp
theorem Rt.table {n0 : Nat} {pre : List Ent} {T : Nat -> Nat × List D} {n : Nat} {e : TypeId} {sz : Nat} (hT : ∀ i, jy (T i).2 = true) (h0 : n0 <= pre.length) (hlow : lowB pre.length pre = true) :
  Rt n0 (pre ++ .cells (owns (pre.length + 1) T n) :: tblE e sz T n) (.bsl pre.length 0 1 n) (.ls 1 (lsT sz T n)) pre := by
 -- one by one
 have step : ∀ m, m <= n -> ∃ es l, es.length = n /\ l.length = n /\ (∀ i, i < m -> l[i]? = some (.ls sz (T i).2)) /\ (∀ i, m <= i -> i < n -> l[i]? = some (.own (i + (pre.length + 1)) (T i).1) /\ es[i]? = some (.arr e sz (T i).1 (T i).2)) /\
   Rt n0 (pre ++ .cells (owns (pre.length + 1) T n) :: tblE e sz T n) (.bsl pre.length 0 1 n) (.bsl pre.length 0 1 n) (pre ++ .cells l :: es) := by
  intro m
  induction m with
  | zero => intro _; exact ⟨tblE e sz T n, owns (pre.length + 1) T n, jM6 .., by simp [owns], by omega, fun i _ hi => ⟨jQ4 hi, jM7 hi⟩, Rt.id⟩
  | succ m ih =>
    intro hm
    obtain ⟨es, l, h1, h2, h3, h4, h5⟩ := ih (by omega)
    obtain ⟨h6, h7⟩ := h4 m (Nat.le_refl _) (by omega)
    have hk : (pre ++ .cells l :: es)[pre.length]? = some (.cells l) := by simp
    have hj : (pre ++ .cells l :: es)[m + (pre.length + 1)]? = some (.arr e sz (T m).1 (T m).2) := by
     rw [List.getElem?_append_right (by omega), show m + (pre.length + 1) - pre.length = m + 1 by omega, List.getElem?_cons_succ]; exact h7
    refine ⟨es.set m .gone, l.set m (.ls sz (T m).2), by simpa using h1, by simpa using h2, fun i hi => ?_, fun i hi hn => ?_, h5.trans ?_⟩
    ·rw [List.getElem?_set]
     by_cases h : m = i
     ·subst h; simp [h2]; omega
     ·rw [if_neg h]; exact h3 i (by omega)
    ·rw [List.getElem?_set_ne (by omega), List.getElem?_set_ne (by omega)]
     exact h4 i (by omega) hn
    ·have := Rt.give (n0 := n0) (d := .bsl pre.length 0 1 n) hk hj h6
     rwa [List.set_append_right _ _ (by omega), show m + (pre.length + 1) - pre.length = m + 1 by omega, List.set_cons_succ, List.set_append_right _ _ (Nat.le_refl _), Nat.sub_self, List.set_cons_zero] at this
 obtain ⟨es, l, h1, h2, h3, _, h5⟩ := step n (Nat.le_refl _)
 have hl : l = lsT sz T n := by
  apply List.ext_getElem?; intro i
  by_cases hi : i < n
  ·rw [h3 i hi]; simp [lsT, hi]
  ·rw [List.getElem?_eq_none (by omega), List.getElem?_eq_none (by simp [lsT]; omega)]
 subst hl
 have hcl : jy (lsT sz T n) = true := by
  unfold lsT
  generalize List.range n = r
  induction r with
  | nil => rfl
  | cons a r ih => simp only [List.map_cons, jy, closed, qf]; exact ⟨trivial, ih⟩
 have hk : (pre ++ .cells (lsT sz T n) :: es)[pre.length]? = some (.cells (lsT sz T n)) := by simp
 have h6 := Rt.cellsLs (n0 := n0) hk hcl
 rw [h2] at h6
 refine (h5.trans h6).trans (Rt.cut h0 ?_ hlow rfl)
 rw [List.set_append_right _ _ (Nat.le_refl _)]
 exact vM pre _
end

theorem Rt.pick {bx es : List Ent} {d1 d : D} (ks : List Nat) (h1 : d1 = renD ks (jZ bx) d) (h2 : j4 bx ks = some (j0 ks (jZ bx) es)) (hk : okKs ks = true) : Rt 0 bx d1 d es := by
 rw [kH] at h1 h2
 intro F K pl w v h0 hI hr
 subst h1
 obtain ⟨hel, hget⟩ := VT (n := bx.length) h2
 rw [yr] at hel
 have htab := hI.tab
 have hlt : ∀ k ∈ ks, k < bx.length := fun k hkm => by
  obtain ⟨j, hj, hjk⟩ := jk1 (n := bx.length) hkm
  have hj' : j < es.length := by omega
  have := hget j _ (xO (List.getElem?_eq_getElem hj'))
  rw [hjk] at this
  exact (List.getElem?_eq_some_iff.1 this).1
 let plc : Pl := fun j ver => if j < ks.length then pl (rho ks bx.length j) ver else none
 have hplc : ∀ j ver x, pl (rho ks bx.length j) ver = some x -> plc j ver = some x := fun j ver x hx => by
  by_cases hj : j < ks.length
  ·simpa [plc, hj] using hx
  ·rw [VG (by omega), htab.free _ _ (by omega)] at hx; cases hx
 have hplj : ∀ j, j < ks.length -> ∀ ver, plc j ver = pl (rho ks bx.length j) ver := fun j hj ver => by simp [plc, hj]
 have hesk : ∀ j e, es[j]? = some e -> j < ks.length /\ bx[rho ks bx.length j]? = some (renE ks bx.length e) := fun j e he =>
  ⟨by rw [<- hel]; exact (List.getElem?_eq_some_iff.1 he).1, hget j _ (xO he)⟩
 have hinj : ∀ i j, rho ks bx.length i = rho ks bx.length j -> i = j := fun i j hij => by
  have h3 := J5 (n := bx.length) (j := i) hk hlt
  rw [hij, J5 hk hlt] at h3; cases h3; rfl
 refine ⟨K, plc, ⟨hI.chg, hI.mod, hI.le, hI.new, ⟨fun j e he => ?_, fun i j e f b hij hi hj hb hb' => ?_, fun j ver hj => by simp [plc]; omega⟩, fun j e b he hb => ?_, by rw [h0]; exact Nat.zero_le _, fun k ver x hk' => by rw [h0] at hk'; omega, hI.glob⟩, js3 hplc _ _ hr⟩
 ·obtain ⟨h3, h4⟩ := hesk j e he
  exact (htab.ok _ _ h4).ren (hplj j h3) hplc
 ·obtain ⟨h3, h4⟩ := hesk i e hi
  obtain ⟨h5, h6⟩ := hesk j f hj
  rw [vG (hplj i h3)] at hb
  rw [vG (hplj j h5)] at hb'
  exact htab.sep _ _ _ _ b (fun e => hij (hinj i j e)) h4 h6 hb hb'
 ·obtain ⟨h3, h4⟩ := hesk j e he
  rw [vG (hplj j h3)] at hb
  exact hI.own _ _ b h4 hb
end Go.AM
