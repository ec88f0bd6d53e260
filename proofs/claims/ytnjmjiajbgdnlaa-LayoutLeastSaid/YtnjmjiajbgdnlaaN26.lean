
/- Chapter 52: tiles, the plain part. -/
import Derived.Test.YtnjmjiajbgdnlaaN25
set_option linter.all false
namespace Go.AM
open Go Go.Proofs

theorem zf_cases (q : Rc) : (zf q = .o ∧ (q.w < 1 ∨ q.h < 1)) ∨ (zf q = q ∧ 1 ≤ q.w ∧ 1 ≤ q.h) := by
  unfold zf
  split
  · rename_i h; simp at h; exact .inl ⟨rfl, h⟩
  · rename_i h; simp at h; exact .inr ⟨rfl, by omega, by omega⟩
theorem not_vr_o : ¬ Vr .o := by simp [Vr, Rc.o]
theorem vr_ins {r q : Rc} (hv : Vr r) (hi : InsR r q) (hw : 1 ≤ q.w) (hh : 1 ≤ q.h) : Vr q := by
  have a1 := hi.x; have a2 := hi.y
  simp only [Vr] at hv ⊢
  omega
theorem ins_holds {r a b : Rc} (hv : Vr r) (h1 : InsR r a) (h2 : InsR r b) (h : InsR a b) : holdsB (zf a) (zf b) = true := by
  rw [holds_iff]
  rcases zf_cases b with ⟨e, _⟩ | ⟨e, hw, hh⟩
  · rw [e]; exact .inl not_vr_o
  · have a1 := h.x; have a2 := h.y
    rcases zf_cases a with ⟨e', h3⟩ | ⟨e', hw', hh'⟩
    · omega
    · rw [e, e']
      exact .inr ⟨vr_ins hv h1 hw' hh', vr_ins hv h2 hw hh, by unfold Ins; omega⟩
theorem cross_e {a b : Rc} (h : emptyB a = true ∨ emptyB b = true) : crossR a b = .o := by
  unfold crossR; rw [if_pos (by simpa using h)]
theorem zf_apart {r a b : Rc} (hv : Vr r) (h1 : InsR r a) (h2 : InsR r b) (h : b.x + b.w ≤ a.x ∨ b.y + b.h ≤ a.y) : (crossR (zf a) (zf b)).w = 0 := by
  rcases zf_cases a with ⟨e, _⟩ | ⟨e, hw, hh⟩
  · rw [e, cross_e (.inl empty_o)]; rfl
  rcases zf_cases b with ⟨e', _⟩ | ⟨e', hw', hh'⟩
  · rw [e', cross_e (.inr empty_o)]; rfl
  rw [e, e', cross_vr (vr_ins hv h1 hw hh) (vr_ins hv h2 hw' hh'), between_o (by omega)]; rfl

theorem take_mono {l : List Int} (h : ∀ x ∈ l, 0 ≤ x) {i j : Nat} (hij : i ≤ j) : (l.take i).sum ≤ (l.take j).sum := by
  have e : l.take j = l.take i ++ (l.take j).drop i := by
    have := List.take_append_drop i (l.take j)
    rw [List.take_take, Nat.min_eq_left hij] at this
    exact this.symm
  rw [e, List.sum_append]
  have := sum_nonneg (l := (l.take j).drop i) fun x hx => h x (List.mem_of_mem_take (List.mem_of_mem_drop hx))
  omega
theorem kids_apart {nd : Nd} {q : Rc} {P : List Int} (hg : 0 ≤ nd.gap) (hp : ∀ p ∈ P, 0 ≤ p) {m j : Nat} (hm : m < j) (hj : j ≤ P.length) :
    (kidR nd q P m).x + (kidR nd q P m).w ≤ (kidR nd q P j).x ∨ (kidR nd q P m).y + (kidR nd q P m).h ≤ (kidR nd q P j).y := by
  have h1 := take_mono hp (i := m + 1) (j := j) hm
  have h2 : (P.take (m + 1)).sum = (P.take m).sum + P.getD m 0 := by rw [take_sum (by omega)]; simp [show m < P.length by omega]
  have h3 : (m : Int) * nd.gap ≤ j * nd.gap := Int.mul_le_mul_of_nonneg_right (by omega) hg
  unfold kidR kidAt posJ
  cases nd.down with
  | true => right; simp only [if_true]; omega
  | false => left; simp only [Bool.false_eq_true, if_false]; omega

def arS (X : List Rc) (ks : List Int) : Int := (ks.map fun k => areaI (X.getD k.toNat .o)).sum
def acr (nd : Nd) (j : Nat) : Int := if j = 0 then 0 else nd.gap * (j - 1)
structure Tl (L : List Nd) (X : List Rc) (i : Nat) (nd : Nd) : Prop where
  lt : ∀ k ∈ nd.kids, (i : Int) < k ∧ k < L.length
  holds : ∀ k ∈ nd.kids, holdsB (X.getD i .o) (X.getD k.toNat .o) = true
  apart : ∀ (m j : Nat) k k', m < j → nd.kids[j]? = some k → nd.kids[m]? = some k' → (crossR (X.getD k.toNat .o) (X.getD k'.toNat .o)).w = 0
  area : 0 < nd.kids.length → 0 < areaI (X.getD i .o) → arS X nd.kids + acr nd nd.kids.length * (turnP nd (X.getD i .o).w (X.getD i .o).h).2 = areaI (X.getD i .o)
  bd : (0 ≤ (X.getD i .o).w ∧ (X.getD i .o).w ≤ 1000000) ∧ (0 ≤ (X.getD i .o).h ∧ (X.getD i .o).h ≤ 1000000)

theorem tile_ok {L : List Nd} (t : Tree L) {r : Rc} (hv : Vr r) {F : Nat → Rc} (hF : Frm L r F) {i : Nat} {nd : Nd} (h : L[i]? = some nd) : Tl L ((List.range L.length).map fun i => zf (F i)) i nd := by
  have hi := (List.getElem?_eq_some_iff.1 h).1
  have hb := t.behind i nd h
  have hget : ∀ j, j < L.length → ((List.range L.length).map fun i => zf (F i)).getD j .o = zf (F j) := fun j hj => by
    rw [List.getD_eq_getElem?_getD, List.getElem?_map, List.getElem?_range hj]; rfl
  have hin : ∀ j, j < L.length → InsR r (F j) := fun j hj => frm_in t hF j j (Nat.le_refl _) hj
  have ho := hF.ok i nd h
  obtain ⟨p1, p2, p3⟩ := parts_all ho.ok
  have hgp := gaps_nn t (List.mem_of_getElem? h)
  have hpl : (partsOf L nd (F i)).1.length = nd.kids.length := by rw [ho.ok.lenP]; simp [leastL]
  have hbi := hF.big i hi
  have b1 := hbi.1; have b2 := hbi.2
  have hsn := siz_nn t i
  refine ⟨hb, fun k hk => ?_, fun m j k k' hmj hk hk' => ?_, fun hpos ha => ?_, ?_⟩
  · have hkb := hb k hk
    rw [hget i hi, hget k.toNat (by omega)]
    obtain ⟨j, hj⟩ := List.getElem?_of_mem hk
    have := kid_in t h hbi hj
    rw [← hF.kid i nd h j k hj] at this
    exact ins_holds hv (hin i hi) (hin _ (by omega)) this
  · have hkb := hb k (List.mem_of_getElem? hk)
    have hkb' := hb k' (List.mem_of_getElem? hk')
    rw [hget _ (by omega), hget _ (by omega)]
    refine zf_apart hv (hin _ (by omega)) (hin _ (by omega)) ?_
    rw [hF.kid i nd h j k hk, hF.kid i nd h m k' hk']
    exact kids_apart hgp.1 p1 hmj (by have := (List.getElem?_eq_some_iff.1 hk).1; omega)
  · rw [hget i hi] at ha ⊢
    rcases zf_cases (F i) with ⟨e, _⟩ | ⟨e, hw, hh⟩
    · rw [e] at ha; simp [area_e empty_o] at ha
    have hvi := vr_ins hv (hin i hi) hw hh
    rw [e, area_vr hvi]
    have hT := p3 (by simpa [leastL] using hpos)
    have hoth : 1 ≤ (turnP nd (F i).w (F i).h).2 := by unfold turnP; split <;> dsimp only <;> omega
    have key : ∀ j, j ≤ nd.kids.length → arS ((List.range L.length).map fun i => zf (F i)) (nd.kids.take j) = ((partsOf L nd (F i)).1.take j).sum * (turnP nd (F i).w (F i).h).2 := by
      intro j
      induction j with
      | zero => intro _; simp [arS]
      | succ j ih =>
        intro hj
        have hjk : nd.kids[j]? = some nd.kids[j] := List.getElem?_eq_getElem (by omega)
        have hkb := hb _ (List.mem_of_getElem? hjk)
        have e1 := hF.kid i nd h j _ hjk
        have e0 : nd.kids.take (j + 1) = nd.kids.take j ++ [nd.kids[j]] := List.take_succ_eq_append_getElem (by omega)
        have e2 : arS ((List.range L.length).map fun i => zf (F i)) (nd.kids.take (j + 1)) = arS ((List.range L.length).map fun i => zf (F i)) (nd.kids.take j) + areaI (zf (F nd.kids[j].toNat)) := by
          unfold arS
          rw [e0, List.map_append, List.sum_append]
          simp only [List.map_cons, List.map_nil, List.sum_cons, List.sum_nil]
          rw [hget _ (by omega)]; omega
        rw [e2, ih (by omega), take_sum (by omega), Int.add_mul]
        congr 1
        have hki := hin nd.kids[j].toNat (by omega)
        have hp0 := p1 _ (List.getElem_mem (by omega : j < (partsOf L nd (F i)).1.length))
        have ed : (partsOf L nd (F i)).1.getD j 0 = (partsOf L nd (F i)).1[j]'(by omega) := by simp [show j < (partsOf L nd (F i)).1.length by omega]
        generalize nd.kids[j] = k at *
        unfold kidR kidAt at e1
        rw [ed] at e1
        generalize (partsOf L nd (F i)).1[j]'(by omega) = p at *
        have ew : (F k.toNat).w * (F k.toNat).h = p * (turnP nd (F i).w (F i).h).2 ∧ (p = 0 → (F k.toNat).w < 1 ∨ (F k.toNat).h < 1) ∧ (1 ≤ p → 1 ≤ (F k.toNat).w ∧ 1 ≤ (F k.toNat).h) := by
          rw [e1]
          unfold turnP at hoth ⊢
          cases nd.down with
          | true => simp only [if_true] at hoth ⊢; exact ⟨Int.mul_comm _ _, by omega, by omega⟩
          | false => simp only [Bool.false_eq_true, if_false] at hoth ⊢; exact ⟨trivial, by omega, by omega⟩
        rcases zf_cases (F k.toNat) with ⟨e3, h3⟩ | ⟨e3, h3, h4⟩
        · rw [e3, area_e empty_o]
          have : p = 0 := by
            by_cases hp : 1 ≤ p
            · have := ew.2.2 hp; omega
            · omega
          rw [this]; simp
        · rw [e3, area_vr (vr_ins hv hki h3 h4), ew.1]
    have hk := key nd.kids.length (Nat.le_refl _)
    rw [List.take_length, ← hpl, List.take_length, hT] at hk
    rw [hk]
    have ha : acr nd nd.kids.length = gapsI nd := by
      unfold acr gapsI
      by_cases h1 : nd.kids.length < 2
      · have : nd.kids.length = 1 := by omega
        rw [this]; simp
      · rw [if_neg (by omega), if_neg h1]
    rw [ha, ← Int.add_mul, show (turnP nd (F i).w (F i).h).1 - gapsI nd + gapsI nd = (turnP nd (F i).w (F i).h).1 by omega]
    unfold turnP; split
    · exact Int.mul_comm _ _
    · rfl
  · rw [hget i hi]
    rcases zf_cases (F i) with ⟨e, _⟩ | ⟨e, hw, hh⟩
    · rw [e]; simp [Rc.o]
    · rw [e]; omega

theorem atF_nn {l : List Rc} {x y : Int} (h : hasB (l.getD 0 .o) x y = true) : ∀ n, 0 < n → 0 ≤ atF l x y n
  | 0, h0 => by omega
  | n + 1, _ => by
    simp only [atF]
    split
    · omega
    · rename_i hn
      by_cases h0 : n = 0
      · subst h0; exact absurd h hn
      · exact atF_nn h n (by omega)

theorem tiles_ok {L : List Nd} {r : Rc} (h : (placeS L r).2 = 0) : ∃ X : List Rc, (placeS L r).1 = X ∧ X.length = L.length ∧ X[0]? = some r ∧ 0 < L.length ∧ (Vr r ∧ r.w ≤ 1000000 ∧ r.h ≤ 1000000) ∧ (∀ nd ∈ L, 0 ≤ nd.gap ∧ nd.gap ≤ 1000 ∧ nd.kids.length ≤ 64) ∧ ∀ (i : Nat) nd, L[i]? = some nd → Tl L X i nd := by
  obtain ⟨t, ⟨hv, hw, hh⟩, F, hF, hP⟩ := place_ok h
  refine ⟨_, hP, by simp, ?_, t.len.1, ⟨hv, hw, hh⟩, fun nd hnd => ?_, fun i nd hnd => tile_ok t hv hF hnd⟩
  · rw [List.getElem?_map, List.getElem?_range t.len.1]
    show some (zf (F 0)) = _
    rw [hF.zero]
    unfold zf
    simp only [Vr] at hv
    rw [if_neg (by simp; omega)]
  · have := gaps_nn t hnd
    obtain ⟨i, hi⟩ := List.getElem?_of_mem hnd
    exact ⟨this.1, this.2.1, kids_len t hi⟩
end Go.AM
