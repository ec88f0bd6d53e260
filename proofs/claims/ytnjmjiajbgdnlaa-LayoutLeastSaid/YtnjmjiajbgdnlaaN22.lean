
/- Chapter 52: the frames. -/
import Derived.Test.YtnjmjiajbgdnlaaN21
set_option linter.all false
namespace Go.AM
open Go Go.Proofs

theorem split_of {total : Int} {least grow : List Int} (hl : least.length = grow.length) (h64 : least.length ≤ 64) (h1 : ∀ x ∈ least, 0 ≤ x ∧ x ≤ 1000000) (h2 : ∀ x ∈ grow, 0 ≤ x ∧ x ≤ 1000000) (ht : total ≤ 1000000) (hs : least.sum ≤ total) : (splitS total least grow).2 = 0 := by
  have := sum_nonneg fun x hx => (h1 x hx).1
  exact (splitOk_of ⟨hl, h64, h1, h2, ⟨by omega, ht⟩, hs, rfl⟩ (Int.le_refl _)).resolve_right (by omega)

def kidAt (nd : Nd) (q : Rc) (pos p : Int) : Rc := if nd.down then ⟨q.x, pos, q.w, p⟩ else ⟨pos, q.y, p, q.h⟩
def posJ (nd : Nd) (q : Rc) (P : List Int) (j : Nat) : Int := (if nd.down then q.y else q.x) + ((P.take j).sum + j * nd.gap)
def kidR (nd : Nd) (q : Rc) (P : List Int) (j : Nat) : Rc := kidAt nd q (posJ nd q P j) (P.getD j 0)

theorem layK_not {nd : Nd} {r : Rc} {m : Nat} : ∀ {ks ps : List Int} {pos : Int} {A : List Rc}, (∀ k ∈ ks, k.toNat ≠ m) → (layK nd r pos ks ps A)[m]? = A[m]?
  | [], _, _, _, _ => by unfold layK; rfl
  | _ :: _, [], _, _, _ => by unfold layK; rfl
  | k :: ks, p :: ps, pos, A, h => by
    simp only [layK]
    rw [layK_not fun x hx => h x (by simp [hx]), List.getElem?_set_ne (h k (by simp))]
theorem layK_get {nd : Nd} {r : Rc} : ∀ {ks ps : List Int} {pos : Int} {A : List Rc} {j : Nat} {k : Int}, ks.Nodup → (∀ k ∈ ks, 0 ≤ k) → ks.length = ps.length → (∀ k ∈ ks, k.toNat < A.length) → ks[j]? = some k →
    (layK nd r pos ks ps A)[k.toNat]? = some (kidAt nd r (pos + ((ps.take j).sum + j * nd.gap)) (ps.getD j 0))
  | [], _, _, _, _, _, _, _, _, _, h => by simp at h
  | _ :: _, [], _, _, _, _, _, _, h, _, _ => by simp at h
  | k0 :: ks, p :: ps, pos, A, 0, k, hn, h0, hl, hA, h => by
    simp at h; subst h
    simp only [layK]
    have hn' := List.nodup_cons.1 hn
    rw [layK_not fun x hx => ?_, List.getElem?_set_self (hA k0 (by simp))]
    · simp [kidAt]
    · have h1 := h0 k0 (by simp); have h2 := h0 x (by simp [hx])
      intro e
      have : x = k0 := by omega
      exact hn'.1 (this ▸ hx)
  | k0 :: ks, p :: ps, pos, A, j + 1, k, hn, h0, hl, hA, h => by
    simp only [layK]
    rw [layK_get (j := j) (List.nodup_cons.1 hn).2 (fun x hx => h0 x (by simp [hx])) (by simpa using hl) (fun x hx => by rw [List.length_set]; exact hA x (by simp [hx])) (by simpa using h)]
    have e : pos + (p + nd.gap) + ((ps.take j).sum + j * nd.gap) = pos + (((p :: ps).take (j + 1)).sum + ((j + 1 : Nat) : Int) * nd.gap) := by
      rw [List.take_succ_cons, List.sum_cons, show ((j + 1 : Nat) : Int) = j + 1 by omega, Int.add_mul]; omega
    rw [e]; rfl

def Bg (L : List Nd) (m : Nat) (q : Rc) : Prop := ((siz L m).1 ≤ q.w ∧ q.w ≤ 1000000) ∧ ((siz L m).2 ≤ q.h ∧ q.h ≤ 1000000)

theorem turn_turn (nd : Nd) (a b : Int) : turnP nd (turnP nd a b).1 (turnP nd a b).2 = (a, b) := by unfold turnP; split <;> rfl
theorem foldl_max {o : Int → Int} : ∀ {l : List Int} {g : Int}, g ≤ l.foldl (fun ot k => max ot (o k)) g ∧ ∀ k ∈ l, o k ≤ l.foldl (fun ot k => max ot (o k)) g
  | [], g => by simp
  | x :: l, g => by
    have h := foldl_max (o := o) (l := l) (g := max g (o x))
    simp only [List.foldl_cons]
    refine ⟨by have := h.1; omega, fun k hk => ?_⟩
    rcases List.mem_cons.1 hk with rfl | hk
    · have := h.1; omega
    · exact h.2 k hk
/-- A node's least size, along and the other way. -/
theorem siz_turn {L : List Nd} (t : Tree L) {i : Nat} {nd : Nd} (h : L[i]? = some nd) :
    (ownP nd).1 ≤ (turnP nd (siz L i).1 (siz L i).2).1 ∧ gapsI nd + (leastL L nd).sum ≤ (turnP nd (siz L i).1 (siz L i).2).1 ∧ (ownP nd).2 ≤ (turnP nd (siz L i).1 (siz L i).2).2 ∧
      ∀ k ∈ nd.kids, (turnP nd (siz L k.toNat).1 (siz L k.toNat).2).2 ≤ (turnP nd (siz L i).1 (siz L i).2).2 := by
  have e := siz_eq t.behind h
  unfold oneS at e
  rw [e, turn_turn, foldl_al]
  have := foldl_max (l := nd.kids) (g := (ownP nd).2) (o := fun k => (turnP nd (siz L k.toNat).1 (siz L k.toNat).2).2)
  refine ⟨by dsimp only; omega, ?_, this.1, this.2⟩
  show _ ≤ max _ (gapsI nd + (nd.kids.map fun k => (turnP nd (siz L k.toNat).1 (siz L k.toNat).2).1).sum)
  unfold leastL
  omega
theorem gaps_nn {L : List Nd} (t : Tree L) {nd : Nd} (h : nd ∈ L) : 0 ≤ nd.gap ∧ nd.gap ≤ 1000 ∧ 0 ≤ gapsI nd := by
  obtain ⟨b1, _⟩ := t.small nd h
  simp only [bad1, Bool.or_eq_false_iff, decide_eq_false_iff_not] at b1
  refine ⟨by omega, by omega, ?_⟩
  unfold gapsI
  split
  · omega
  · exact Int.mul_nonneg (by omega) (by omega)

theorem sum_mem_le {l : List Int} (h : ∀ x ∈ l, 0 ≤ x) {j : Nat} (hj : j < l.length) : l[j] ≤ l.sum := by
  have h1 : 0 ≤ (l.take j).sum := sum_nonneg fun x hx => h x (List.mem_of_mem_take hx)
  have h2 : 0 ≤ (l.drop (j + 1)).sum := sum_nonneg fun x hx => h x (List.mem_of_mem_drop hx)
  have e : l.sum = (l.take (j + 1)).sum + (l.drop (j + 1)).sum := by rw [← List.sum_append, List.take_append_drop]
  rw [take_sum hj] at e
  omega

theorem SplitOk.lenP {total : Int} {least grow P : List Int} (s : SplitOk total least grow P) : P.length = least.length := by rw [s.P]; exact parts_len s.len
theorem SplitOk.get {total : Int} {least grow P : List Int} (s : SplitOk total least grow P) {j : Nat} (hj : j < least.length) : ∃ p, P[j]? = some p ∧ least[j] ≤ p ∧ p ≤ total := by
  have h0 : 0 ≤ total - least.sum := by have := s.le; omega
  have h1 := parts_get (left := total - least.sum) s.len hj
  have h2 := up_step s.g0 h0 (i := j) (by have := s.len; omega)
  have h3 := up_bd s.g0 h0 j
  have h4 := up_bd s.g0 h0 (j + 1)
  have h5 := sum_mem_le (fun x hx => (s.l0 x hx).1) hj
  rw [← s.P] at h1
  exact ⟨_, h1, by omega, by omega⟩

structure NdOk (L : List Nd) (nd : Nd) (q : Rc) : Prop where
  ok : SplitOk ((turnP nd q.w q.h).1 - gapsI nd) (leastL L nd) (growL L nd) (partsOf L nd q).1
  no : (partsOf L nd q).2 = 0
  big : ∀ j k, nd.kids[j]? = some k → Bg L k.toNat (kidR nd q (partsOf L nd q).1 j)
theorem nd_ok {L : List Nd} (t : Tree L) {i : Nat} {nd : Nd} {q : Rc} (h : L[i]? = some nd) (hb : Bg L i q) : NdOk L nd q := by
  obtain ⟨h1, h2, h3, h4⟩ := siz_turn t h
  have hm : nd ∈ L := List.mem_of_getElem? h
  have hg := gaps_nn t hm
  have hkl := kids_len t h
  have hle : (turnP nd (siz L i).1 (siz L i).2).1 ≤ (turnP nd q.w q.h).1 ∧ (turnP nd (siz L i).1 (siz L i).2).2 ≤ (turnP nd q.w q.h).2 ∧ (turnP nd q.w q.h).1 ≤ 1000000 ∧ (turnP nd q.w q.h).2 ≤ 1000000 := by
    have e1 := hb.1; have e2 := hb.2
    unfold turnP; split <;> dsimp only <;> omega
  have hl0 : ∀ x ∈ leastL L nd, 0 ≤ x := fun x hx => by
    obtain ⟨k, hk, rfl⟩ := List.mem_map.1 hx
    exact (turn_nonneg (siz_nn t _).1 (siz_nn t _).2).1
  have hls := sum_nonneg hl0
  have hl1 : ∀ x ∈ leastL L nd, 0 ≤ x ∧ x ≤ 1000000 := fun x hx => by
    obtain ⟨j, hj, rfl⟩ := List.getElem_of_mem hx
    have := sum_mem_le hl0 hj
    have := hl0 _ hx
    omega
  have hg1 : ∀ x ∈ growL L nd, 0 ≤ x ∧ x ≤ 1000000 := fun x hx => by
    obtain ⟨k, hk, rfl⟩ := List.mem_map.1 hx
    have hkb := t.behind i nd h k hk
    have hkn : L[k.toNat]? = some (L[k.toNat]'(by omega)) := List.getElem?_eq_getElem (by omega)
    rw [hkn]
    obtain ⟨_, _, _, b4⟩ := t.small _ (List.mem_of_getElem? hkn)
    simp only [bad1, Bool.or_eq_false_iff, decide_eq_false_iff_not] at b4
    dsimp only; omega
  have hlen : (leastL L nd).length = (growL L nd).length := by simp [leastL, growL]
  have hln : (leastL L nd).length = nd.kids.length := by simp [leastL]
  have hmax : max ((turnP nd q.w q.h).1 - gapsI nd) 0 = (turnP nd q.w q.h).1 - gapsI nd := by omega
  have hno : (splitS ((turnP nd q.w q.h).1 - gapsI nd) (leastL L nd) (growL L nd)).2 = 0 := split_of hlen (by omega) hl1 hg1 (by omega) (by omega)
  have hok := splitOk hno
  have hP : partsOf L nd q = splitS ((turnP nd q.w q.h).1 - gapsI nd) (leastL L nd) (growL L nd) := by unfold partsOf; rw [hmax]
  rw [← hP] at hok hno
  refine ⟨hok, hno, fun j k hjk => ?_⟩
  obtain ⟨hj, rfl⟩ := List.getElem?_eq_some_iff.1 hjk
  obtain ⟨p, hp1, hp2, hp3⟩ := hok.get (j := j) (by omega)
  have e1 : (leastL L nd)[j]'(by omega) = (turnP nd (siz L nd.kids[j].toNat).1 (siz L nd.kids[j].toNat).2).1 := by simp [leastL]
  rw [e1] at hp2
  have h5 := h4 _ (List.getElem_mem hj)
  have e2 : (partsOf L nd q).1.getD j 0 = p := by simp [hp1]
  unfold kidR kidAt
  rw [e2]
  generalize nd.kids[j] = k at *
  have hgn := hg.2.2
  unfold Bg
  unfold turnP at hp2 h5 hp3 hle
  cases hd : nd.down with
  | true => rw [hd] at hp2 h5 hp3 hle; simp only [if_true] at *; omega
  | false => rw [hd] at hp2 h5 hp3 hle; simp only [Bool.false_eq_true, if_false] at *; omega

structure FrI (L : List Nd) (r : Rc) (i : Nat) (A : List Rc) : Prop where
  len : A.length = L.length
  zero : A[0]? = some r
  kid : ∀ m nd q, m < i → L[m]? = some nd → A[m]? = some q → ∀ j k, nd.kids[j]? = some k → A[k.toNat]? = some (kidR nd q (partsOf L nd q).1 j)
  big : ∀ (m : Nat) q, (m = 0 ∨ ∃ j nd, j < i ∧ L[j]? = some nd ∧ (m : Int) ∈ nd.kids) → A[m]? = some q → Bg L m q
theorem frI_step {L : List Nd} (t : Tree L) {r : Rc} {i : Nat} {A : List Rc} (hi : i < L.length) (h : FrI L r i A) : FrI L r (i + 1) (stepA L A i) := by
  have hnd : L[i]? = some L[i] := List.getElem?_eq_getElem hi
  have hlen := h.len
  have hq : A[i]? = some (A[i]'(by omega)) := List.getElem?_eq_getElem (by omega)
  have hst : stepA L A i = kidsAt L L[i] (A[i]'(by omega)) A := by unfold stepA; rw [hnd, hq]
  have hbe := t.behind i _ hnd
  rw [hst]
  generalize L[i] = nd at *
  generalize A[i]'(by omega) = q at *
  have hbg : Bg L i q := h.big i q (by
    by_cases h0 : i = 0
    · exact .inl h0
    · obtain ⟨m, nd', h1, h2⟩ := allK_mem (t.all i (by omega) hi)
      have := t.behind m nd' h1 i h2
      exact .inr ⟨m, nd', by omega, h1, h2⟩) hq
  have ho := nd_ok t hnd hbg
  have hkn : kidsAt L nd q A = layK nd q (if nd.down then q.y else q.x) nd.kids (partsOf L nd q).1 A := by unfold kidsAt; rw [if_pos ho.no]
  have hpl : nd.kids.length = (partsOf L nd q).1.length := by rw [ho.ok.lenP]; simp [leastL]
  have hget : ∀ j k, nd.kids[j]? = some k → (kidsAt L nd q A)[k.toNat]? = some (kidR nd q (partsOf L nd q).1 j) := fun j k hjk => by
    rw [hkn, layK_get (kids_nd t hnd).1 (fun x hx => by have := hbe x hx; omega) hpl (fun x hx => by have := hbe x hx; omega) hjk]; rfl
  have hnot : ∀ m, (∀ k ∈ nd.kids, k.toNat ≠ m) → (kidsAt L nd q A)[m]? = A[m]? := fun m hm => by rw [hkn, layK_not hm]
  have hbef : ∀ m, m ≤ i → (kidsAt L nd q A)[m]? = A[m]? := fun m hm => hnot m fun k hk => by have := hbe k hk; omega
  refine ⟨by rw [kidsAt_len, hlen], by rw [hbef 0 (by omega)]; exact h.zero, fun m nd' q' hm hm1 hm2 j k hjk => ?_, fun m q' hm hm1 => ?_⟩
  · by_cases he : m = i
    · subst he
      rw [hnd] at hm1; cases hm1
      rw [hbef m (Nat.le_refl _), hq] at hm2; cases hm2
      exact hget j k hjk
    · rw [hbef m (by omega)] at hm2
      have hkm : k ∈ nd'.kids := List.mem_of_getElem? hjk
      rw [hnot k.toNat fun x hx hxk => ?_]
      · exact h.kid m nd' q' (by omega) hm1 hm2 j k hjk
      · have h1 := hbe x hx
        have h2 := t.behind m nd' hm1 k hkm
        have h3 : x = k := by omega
        subst h3
        refine (kids_nd t hm1).2 x hkm ?_
        unfold allK
        rw [List.mem_flatMap]
        refine ⟨nd, ?_, hx⟩
        have : (L.drop (m + 1))[i - (m + 1)]? = some nd := by rw [List.getElem?_drop, show m + 1 + (i - (m + 1)) = i by omega]; exact hnd
        exact List.mem_of_getElem? this
  · by_cases hk : (m : Int) ∈ nd.kids
    · obtain ⟨j, hj⟩ := List.getElem?_of_mem hk
      have e := hget j _ hj
      rw [Int.toNat_natCast, hm1] at e
      cases e
      have := ho.big j _ hj
      rwa [Int.toNat_natCast] at this
    · rw [hnot m fun x hx hxm => hk (by have := hbe x hx; rw [show (m : Int) = x by omega]; exact hx)] at hm1
      refine h.big m q' ?_ hm1
      rcases hm with rfl | ⟨j, nd', h1, h2, h3⟩
      · exact .inl rfl
      · refine .inr ⟨j, nd', ?_, h2, h3⟩
        by_cases he : j = i
        · subst he; rw [hnd] at h2; cases h2; exact absurd h3 hk
        · omega

structure Frm (L : List Nd) (r : Rc) (F : Nat → Rc) : Prop where
  at_ : atAll L r = (List.range L.length).map F
  zero : F 0 = r
  big : ∀ i, i < L.length → Bg L i (F i)
  ok : ∀ i nd, L[i]? = some nd → NdOk L nd (F i)
  kid : ∀ i nd, L[i]? = some nd → ∀ j k, nd.kids[j]? = some k → F k.toNat = kidR nd (F i) (partsOf L nd (F i)).1 j
theorem fr_all {L : List Nd} (t : Tree L) {r : Rc} (h : Bg L 0 r) : Frm L r (fun i => (atAll L r).getD i .o) := by
  have hp := t.len.1
  have key : ∀ i, i ≤ L.length → FrI L r i ((List.range i).foldl (stepA L) ((List.replicate L.length Rc.o).set 0 r)) := by
    intro i
    induction i with
    | zero =>
      intro _
      refine ⟨by simp, by simp [hp], fun m nd q hm => by omega, fun m q hm hq => ?_⟩
      rcases hm with rfl | ⟨j, _, h1, _⟩
      · simp [hp] at hq; subst hq; exact h
      · omega
    | succ i ih =>
      intro hi
      rw [List.range_succ, List.foldl_append]
      exact frI_step t (by omega) (ih (by omega))
  have hf := key L.length (Nat.le_refl _)
  have hf : FrI L r L.length (atAll L r) := hf
  have hget : ∀ i, i < L.length → (atAll L r)[i]? = some ((atAll L r).getD i .o) := fun i hi => by
    have := hf.len
    simp [List.getElem?_eq_getElem (by omega : i < (atAll L r).length)]
  have hbig : ∀ i, i < L.length → Bg L i ((atAll L r).getD i .o) := fun i hi => by
    refine hf.big i _ ?_ (hget i hi)
    by_cases h0 : i = 0
    · exact .inl h0
    · obtain ⟨m, nd', h1, h2⟩ := allK_mem (t.all i (by omega) hi)
      have := t.behind m nd' h1 i h2
      exact .inr ⟨m, nd', by omega, h1, h2⟩
  refine ⟨?_, ?_, hbig, fun i nd hnd => nd_ok t hnd (hbig i (List.getElem?_eq_some_iff.1 hnd).1), fun i nd hnd j k hjk => ?_⟩
  · apply List.ext_getElem?
    intro j
    by_cases hj : j < L.length
    · rw [hget j hj, List.getElem?_map, List.getElem?_range hj]; rfl
    · rw [List.getElem?_eq_none (by have := hf.len; omega), List.getElem?_eq_none (by simp; omega)]
  · have := hget 0 hp
    rw [hf.zero] at this
    exact (Option.some.inj this).symm
  · have hi := (List.getElem?_eq_some_iff.1 hnd).1
    have h1 := hf.kid i nd _ hi hnd (hget i hi) j k hjk
    have hkb := t.behind i nd hnd k (List.mem_of_getElem? hjk)
    rw [hget k.toNat (by omega)] at h1
    exact Option.some.inj h1
end Go.AM
