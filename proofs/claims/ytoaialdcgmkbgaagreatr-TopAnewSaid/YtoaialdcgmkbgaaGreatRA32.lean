import Derived.Test.YtoaialdcgmkbgaaGreatRA31

set_option linter.all false
namespace Go.AM
open Go Go.RowKit
section
variable {P : Program} {gt : Nat -> Option (List D)} {f : Nat} {ds : List D} {dst : Option Nat} {g : G} {os : List O} {st : St} {K : St -> Prop}
theorem kq5 {n : Nat} {es : List Ent} {d : D} (h : SpM P gt f ds [] d es) (hn : es.length = n) (h1 : ∀ ks m, ds = qY ks m ds) (h4 : ∀ s m, kV (KY s n) m d = kV [] s d) (h5 : ∀ s m, kM (KY s n) m es = kM [] s es)
  (hk : qj (jE6 P gt) gt os K ⟨jw dst g (kV [] (jD st.bx) d) st.env, List.append st.bx (kM [] (jD st.bx) es)⟩) : kk5 (jE6 P gt) gt n f ds dst g os st K := by
 have h0 := SpM.own (bx := st.bx) h [] (h1 _ _) rfl rfl
 have e0 : kO st.bx [] (kM [] (jD st.bx) es) = List.append st.bx (kM [] (jD st.bx) es) := by rw [kO]
 rw [e0] at h0
 refine ⟨_, _, h0, ⟨fun t => ?_, kM [] (jD st.bx) es, rfl, by rw [Xd, hn]⟩, hk⟩
 have h2 := h.fresh
 rw [hn] at h2
 have := SpM.own (bx := st.bx ++ (qp n ++ t)) h2 (KY (jD st.bx) n) (h1 _ _) (by rw [kK, jt3, jg5]) jB7
 rw [h4, h5, kK, jh2 (by rw [Xd, hn])] at this
 rw [kK]
 exact this
end
def jY4 (e : TypeId) (sz : Nat) (T : Nat -> Nat × List D) (n : Nat) : List Ent := (List.range n).map fun i => .arr e sz (T i).1 (T i).2
def kn6 (k : Nat) (T : Nat -> Nat × List D) (n : Nat) : List D := (List.range n).map fun i => .own (i + k) (T i).1
def kM6 (sz : Nat) (T : Nat -> Nat × List D) (n : Nat) : List D := (List.range n).map fun i => .ls sz (T i).2
theorem ks1 (e : TypeId) (sz : Nat) (T : Nat -> Nat × List D) (n : Nat) : (jY4 e sz T n).length = n := by simp [jY4]
theorem ks2 {e : TypeId} {sz : Nat} {T : Nat -> Nat × List D} {n i : Nat} (h : i < n) : (jY4 e sz T n)[i]? = some (.arr e sz (T i).1 (T i).2) := by simp [jY4, h]
theorem kv9 {k : Nat} {T : Nat -> Nat × List D} {n i : Nat} (h : i < n) : (kn6 k T n)[i]? = some (.own (i + k) (T i).1) := by simp [kn6, h]
section
variable {P : Program} {gt : Nat -> Option (List D)} {t e : TypeId}
theorem Rt.give {n0 : Nat} {bx : List Ent} {d : D} {k j i : Nat} {l : List D} {e : TypeId} {sz ver : Nat} {rows : List D} (hk : bx[k]? = some (.cells l)) (hj : bx[j]? = some (.arr e sz ver rows)) (hi : l[i]? = some (.own j ver)) :
  Rt n0 bx d d ((bx.set j .gone).set k (.cells (l.set i (.ls sz rows)))) := fun F K pl w v _ hI hr => by
 have hkj : k ≠ j := fun h => by subst h; rw [hk] at hj; cases hj
 obtain ⟨K', h1, h2, h3⟩ := hI.give hj
 refine ⟨K', pl, ?_, Rep.mono h1 (PLe.refl _) _ _ hr⟩
 have hk2 : (bx.set j .gone)[k]? = some (.cells l) := by rw [List.getElem?_set_ne (Ne.symm hkj)]; exact hk
 obtain ⟨b, T, cs, g1, g2, g3, g4, g5⟩ := h2.tab.ok k _ hk2
 obtain ⟨v1, g6, g7⟩ := RepL.get i g4 hi
 refine h2.upd hk2 (PLe.refl _) (fun _ _ _ => rfl) (fun b hb => .inl hb) (Chg.refl _ _) ⟨b, T, cs, g1, g2, g3, ?_, g5⟩
 simp only [Rep] at g7
 have hs := RepL.set (d := .ls sz rows) (v := v1) i g4 (Rep.mono (KLe.refl _) (PLe.zero _) _ _ (h3 _ g7.1))
 have : cs.set i v1 = cs := by
  apply List.ext_getElem?; intro m
  rw [List.getElem?_set]
  by_cases h : i = m
  ·subst h
   have := (List.getElem?_eq_some_iff.1 g6).1
   have h9 := (List.getElem?_eq_some_iff.1 g6).2
   simp [this, h9]
  ·simp [h]
 rwa [this] at hs
theorem Rt.cellsLs {n0 : Nat} {bx : List Ent} {k : Nat} {l : List D} (hk : bx[k]? = some (.cells l)) (hc : jV l = true) : Rt n0 bx (.bsl k 0 1 l.length) (.ls 1 l) (bx.set k .gone) := fun F K pl w v _ hI hr => by
 have hone : ∀ u : Value, u.oneCell' = true -> u.cells = #[u] := fun u hu => by cases u <;> first | rfl | (simp [Value.oneCell'] at hu)
 obtain ⟨b, T, cs, g1, g2, g3, g4, g5⟩ := hI.tab.ok k _ hk
 have hle := jm5 (o := .cells cs.toArray T (0, 0)) g2
 refine ⟨xk K b (.cells cs.toArray T (0, 0)), pl, hI.leave hk hle (fun c o hb => ?_) (fun c o hb => ?_), ?_⟩
 ·unfold xk at hb
  split at hb
  ·rename_i e1; cases hb; rw [e1]; exact g3
  ·exact hI.mod c o hb
 ·unfold xk at hb
  split at hb
  ·rename_i e1; right; rw [e1]; simp [jW, g1, vj]
  ·exact .inl hb
 ·simp only [Rep] at hr |-
  obtain ⟨b', o, cap, h1, h2, h3, h4⟩ := hr
  rw [g1] at h1
  injection h1 with h1; injection h1 with h1; injection h1 with h1; injection h1 with h1
  subst h1
  refine ⟨_, _, _, h2, rfl, h3, nofun, ?_⟩
  rcases h4 with h4 | rfl
  ·exact .inl (List.eq_nil_of_length_eq_zero h4)
  ·refine .inr ⟨b, 0, cs, rfl, RepL.mono hle (PLe.refl _) _ _ (zj _ _ hc g4), cs.toArray, T, (0, 0), by simp [xk], fun u hu => ⟨by rw [hone u (g5 u hu)]; rfl, fun c hcc => ?_⟩, ?_⟩
   ·have := hone _ (g5 u hu)
    rw [this] at hcc
    simp at hcc; rw [hcc]; exact g5 u hu
   ·have : qa cs = cs := by
     clear g4 g3 hle
     unfold qa
     induction cs with
     | nil => rfl
     | cons u cs ih =>
       rw [List.flatMap_cons, ih fun c hc => g5 c (by simp [hc]), hone u (g5 u (by simp))]
       rfl
    rw [this]; simp
theorem Rt.table {n0 : Nat} {pre : List Ent} {T : Nat -> Nat × List D} {n : Nat} {e : TypeId} {sz : Nat} (hT : ∀ i, jV (T i).2 = true) (h0 : n0 <= pre.length) (hlow : k8 pre.length pre = true) :
  Rt n0 (pre ++ .cells (kn6 (pre.length + 1) T n) :: jY4 e sz T n) (.bsl pre.length 0 1 n) (.ls 1 (kM6 sz T n)) pre := by
 -- one by one
 have step : ∀ m, m <= n -> ∃ es l, es.length = n /\ l.length = n /\ (∀ i, i < m -> l[i]? = some (.ls sz (T i).2)) /\ (∀ i, m <= i -> i < n -> l[i]? = some (.own (i + (pre.length + 1)) (T i).1) /\ es[i]? = some (.arr e sz (T i).1 (T i).2)) /\
   Rt n0 (pre ++ .cells (kn6 (pre.length + 1) T n) :: jY4 e sz T n) (.bsl pre.length 0 1 n) (.bsl pre.length 0 1 n) (pre ++ .cells l :: es) := by
  intro m
  induction m with
  | zero => intro _; exact ⟨jY4 e sz T n, kn6 (pre.length + 1) T n, ks1 .., by simp [kn6], by omega, fun i _ hi => ⟨kv9 hi, ks2 hi⟩, Rt.id⟩
  | succ m ih =>
    intro hm
    obtain ⟨es, l, h1, h2, h3, h4, h5⟩ := ih (by omega)
    obtain ⟨h6, h7⟩ := h4 m (Nat.le_refl _) (by omega)
    have hk : (pre ++ .cells l :: es)[pre.length]? = some (.cells l) := by simp
    have hj : (pre ++ .cells l :: es)[m + (pre.length + 1)]? = some (.arr e sz (T m).1 (T m).2) := by
     rw [List.getElem?_append_right (by omega), show m + (pre.length + 1) - pre.length = m + 1 by omega, List.getElem?_cons_succ]; exact h7
    refine ⟨es.set m .gone, l.set m (.ls sz (T m).2), by simpa using h1, by simpa using h2, fun i hi => ?_, fun i hi hn => ?_, h5.trans ?_⟩
    ·rw [List.getElem?_set]
     by_cases h : m = i
     ·subst h; simp [h2]; omega
     ·rw [if_neg h]; exact h3 i (by omega)
    ·rw [List.getElem?_set_ne (by omega), List.getElem?_set_ne (by omega)]
     exact h4 i (by omega) hn
    ·have := Rt.give (n0 := n0) (d := .bsl pre.length 0 1 n) hk hj h6
     rwa [List.set_append_right _ _ (by omega), show m + (pre.length + 1) - pre.length = m + 1 by omega, List.set_cons_succ, List.set_append_right _ _ (Nat.le_refl _), Nat.sub_self, List.set_cons_zero] at this
 obtain ⟨es, l, h1, h2, h3, _, h5⟩ := step n (Nat.le_refl _)
 have hl : l = kM6 sz T n := by
  apply List.ext_getElem?; intro i
  by_cases hi : i < n
  ·rw [h3 i hi]; simp [kM6, hi]
  ·rw [List.getElem?_eq_none (by omega), List.getElem?_eq_none (by simp [kM6]; omega)]
 subst hl
 have hcl : jV (kM6 sz T n) = true := by
  unfold kM6
  generalize List.range n = r
  induction r with
  | nil => rfl
  | cons a r ih => simp only [List.map_cons, jV, closed, qw]; exact ⟨trivial, ih⟩
 have hk : (pre ++ .cells (kM6 sz T n) :: es)[pre.length]? = some (.cells (kM6 sz T n)) := by simp
 have h6 := Rt.cellsLs (n0 := n0) hk hcl
 rw [h2] at h6
 refine (h5.trans h6).trans (Rt.cut h0 ?_ hlow rfl)
 rw [List.set_append_right _ _ (Nat.le_refl _)]
 exact vV pre _
end

theorem Rt.pick {bx es : List Ent} {d1 d : D} (ks : List Nat) (h1 : d1 = kV ks (jD bx) d) (h2 : Ko bx ks = some (kM ks (jD bx) es)) (hk : jc1 ks = true) : Rt 0 bx d1 d es := by
 rw [kK] at h1 h2
 intro F K pl w v h0 hI hr
 subst h1
 obtain ⟨hel, hget⟩ := jd1 (n := bx.length) h2
 rw [J1] at hel
 have htab := hI.tab
 have hlt : ∀ k ∈ ks, k < bx.length := fun k hkm => by
  obtain ⟨j, hj, hjk⟩ := jH2 (n := bx.length) hkm
  have hj' : j < es.length := by omega
  have := hget j _ (yT (List.getElem?_eq_getElem hj'))
  rw [hjk] at this
  exact (List.getElem?_eq_some_iff.1 this).1
 let plc : Pl := fun j ver => if j < ks.length then pl (z6 ks bx.length j) ver else none
 have hplc : ∀ j ver x, pl (z6 ks bx.length j) ver = some x -> plc j ver = some x := fun j ver x hx => by
  by_cases hj : j < ks.length
  ·simpa [plc, hj] using hx
  ·rw [jb6 (by omega), htab.free _ _ (by omega)] at hx; cases hx
 have hplj : ∀ j, j < ks.length -> ∀ ver, plc j ver = pl (z6 ks bx.length j) ver := fun j hj ver => by simp [plc, hj]
 have hesk : ∀ j e, es[j]? = some e -> j < ks.length /\ bx[z6 ks bx.length j]? = some (zp ks bx.length e) := fun j e he =>
  ⟨by rw [<- hel]; exact (List.getElem?_eq_some_iff.1 he).1, hget j _ (yT he)⟩
 have hinj : ∀ i j, z6 ks bx.length i = z6 ks bx.length j -> i = j := fun i j hij => by
  have h3 := Zc (n := bx.length) (j := i) hk hlt
  rw [hij, Zc hk hlt] at h3; cases h3; rfl
 refine ⟨K, plc, ⟨hI.chg, hI.mod, hI.le, hI.new, ⟨fun j e he => ?_, fun i j e f b hij hi hj hb hb' => ?_, fun j ver hj => by simp [plc]; omega⟩, fun j e b he hb => ?_, by rw [h0]; exact Nat.zero_le _, fun k ver x hk' => by rw [h0] at hk'; omega, hI.glob⟩, jR6 hplc _ _ hr⟩
 ·obtain ⟨h3, h4⟩ := hesk j e he
  exact (htab.ok _ _ h4).ren (hplj j h3) hplc
 ·obtain ⟨h3, h4⟩ := hesk i e hi
  obtain ⟨h5, h6⟩ := hesk j f hj
  rw [xn (hplj i h3)] at hb
  rw [xn (hplj j h5)] at hb'
  exact htab.sep _ _ _ _ b (fun e => hij (hinj i j e)) h4 h6 hb hb'
 ·obtain ⟨h3, h4⟩ := hesk j e he
  rw [xn (hplj j h3)] at hb
  exact hI.own _ _ b h4 hb
end Go.AM
