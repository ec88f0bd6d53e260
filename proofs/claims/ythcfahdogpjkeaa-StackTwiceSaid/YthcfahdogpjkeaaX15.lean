
/- Chapter 29: Restack, by orders. -/
import Derived.Test.YthcfahdogpjkeaaX14
set_option linter.all false
namespace Go.AM
open Go Go.Proofs

def hnS (ats : List Rc) (σ : List Int) (a b : Int) : Bool := if b = 0 then (offL σ a).any (fun w => hidS ats σ w a) else hidS ats σ b a
def hgS (ats : List Rc) (σ : List Int) (a b : Int) : Bool := if b = 0 then (offL σ a).any (fun w => hidS ats σ a w) else hidS ats σ a b
def wayS (ats : List Rc) (σ : List Int) (a b mode : Int) : Int × Bool :=
  if mode = 0 then (if b = 0 then ((offL σ a).length : Int) else idxF (offL σ a) b 0 + 1, true)
  else if mode = 1 then (if b = 0 then 0 else idxF (offL σ a) b 0, true)
  else if mode = 2 then ((offL σ a).length, hnS ats σ a b)
  else if mode = 3 then (0, hgS ats σ a b)
  else (if hnS ats σ a b then ((offL σ a).length : Int) else 0, hnS ats σ a b || hgS ats σ a b)
def newS (ats : List Rc) (σ : List Int) (a b mode : Int) : List Int := if (wayS ats σ a b mode).2 then ins (offL σ a) (wayS ats σ a b mode).1.toNat a else σ
def sibI (b : Int) : Int := if b = 0 then 0 else 1048576 + b

theorem any_cm {l : List Int} {p q : Int → Bool} (h : ∀ w ∈ l, p (1048576 + w) = q w) : (cm l).any p = l.any q := by
  unfold cm
  rw [List.any_map]
  induction l with
  | nil => rfl
  | cons x r ih =>
    simp only [List.any_cons, Function.comp]
    rw [h x (List.mem_cons_self ..), ih fun w hw => h w (List.mem_cons_of_mem _ hw)]

section
variable {ats : List Rc} {deep : Int} {t : TT} {σ : List Int} {a b mode : Int}
theorem way_eq (h : TR ats.length deep t σ) (ha : a ∈ σ) (hb : b = 0 ∨ (b ∈ σ ∧ b ≠ a)) : way29 t (1048576 + a) (sibI b) mode (mB ats deep ats.length) = wayS ats σ a b mode := by
  have hut : upT t (1048576 + a) = 1 := by unfold upT; rw [h.up1 ha]; rfl
  have hO : othersT t (1048576 + a) = cm (offL σ a) := by unfold othersT; rw [hut, h.kids, cm_off]
  unfold way29
  rw [hO]
  rcases hb with rfl | ⟨hb, hba⟩
  · have e1 : hidden29 t (1048576 + a) (sibI 0) (mB ats deep ats.length) (cm (offL σ a)) (decide (sibI 0 = 0)) = hnS ats σ a 0 := by
      unfold hidden29 someB hnS
      rw [show decide (sibI 0 = 0) = true by decide, if_pos rfl, if_pos rfl]
      exact any_cm fun w hw => hides_eq h (offL_mem.1 hw).1 ha
    have e2 : hiding29 t (1048576 + a) (sibI 0) (mB ats deep ats.length) (cm (offL σ a)) (decide (sibI 0 = 0)) = hgS ats σ a 0 := by
      unfold hiding29 someB hgS
      rw [show decide (sibI 0 = 0) = true by decide, if_pos rfl, if_pos rfl]
      exact any_cm fun w hw => hides_eq h ha (offL_mem.1 hw).1
    unfold wayR wayS
    rw [e1, e2, cm_len]
    simp [sibI]
  · have hb1 := (h.mem b).1 hb
    have hs : sibI b = 1048576 + b := by unfold sibI; rw [if_neg (by omega)]
    have hd : decide (sibI b = 0) = false := by rw [hs]; exact decide_eq_false (by omega)
    have e1 : hidden29 t (1048576 + a) (sibI b) (mB ats deep ats.length) (cm (offL σ a)) (decide (sibI b = 0)) = hnS ats σ a b := by
      unfold hidden29 someB hnS
      rw [hd, if_neg (by simp), if_neg (by omega), hs]
      exact hides_eq h hb ha
    have e2 : hiding29 t (1048576 + a) (sibI b) (mB ats deep ats.length) (cm (offL σ a)) (decide (sibI b = 0)) = hgS ats σ a b := by
      unfold hiding29 someB hgS
      rw [hd, if_neg (by simp), if_neg (by omega), hs]
      exact hides_eq h ha hb
    unfold wayR wayS
    rw [e1, e2, cm_len, hd, hs, cm_idx]
    have hb0 : ¬ b = 0 := by omega
    simp [hb0]
theorem way_rangeS (ha : a ∈ σ) (hn : σ.Nodup) (hb : b = 0 ∨ (b ∈ σ ∧ b ≠ a)) : 0 ≤ (wayS ats σ a b mode).1 ∧ (wayS ats σ a b mode).1.toNat < σ.length := by
  have hl := nd_off hn ha
  unfold wayS
  rcases hb with rfl | ⟨hb, hba⟩
  · simp only [if_true]
    repeat' split
    all_goals dsimp only
    all_goals omega
  · have := idxF_mem (offL_mem.2 ⟨hb, hba⟩)
    have := List.length_pos_of_mem ha
    repeat' split
    all_goals dsimp only
    all_goals omega
theorem restack_ok (h : TR ats.length deep t σ) (ha : a ∈ σ) (hb : b = 0 ∨ (b ∈ σ ∧ b ≠ a)) (m0 : 0 ≤ mode) (m4 : mode ≤ 4) :
    ∃ t', restackT t (1048576 + a) (sibI b) mode (mB ats deep ats.length) = (t', !decide (newS ats σ a b mode = σ), 0) ∧ TR ats.length deep t' (newS ats σ a b mode) := by
  have ha1 := (h.mem a).1 ha
  have hut : upT t (1048576 + a) = 1 := by unfold upT; rw [h.up1 ha]; rfl
  have hO : othersT t (1048576 + a) = cm (offL σ a) := by unfold othersT; rw [hut, h.kids, cm_off]
  obtain ⟨r1, r2⟩ := way_rangeS (ats := ats) (mode := mode) ha h.nd hb
  unfold restackT
  rw [if_neg (by omega), if_neg (by rw [h.up1 ha]; simp), if_neg (by simp; omega), if_neg, way_eq h ha hb, hut, h.kids, cm_at r2]
  · unfold newS
    by_cases hw : (wayS ats σ a b mode).2 = true
    · rw [if_pos hw, hw]
      have hs := ins_same h.nd ha r2
      by_cases hc : σ.getD (wayS ats σ a b mode).1.toNat 0 = a
      · rw [if_pos (by rw [hc]; simp)]
        refine ⟨t, by rw [decide_eq_true (hs.2 hc)]; rfl, ?_⟩
        rw [hs.2 hc]; exact h
      · rw [if_neg (by rw [decide_eq_false (fun e => hc (by omega) : ¬ 1048576 + σ.getD (wayS ats σ a b mode).1.toNat 0 = 1048576 + a)]; simp)]
        exact ⟨_, by rw [decide_eq_false (fun e => hc (hs.1 e))]; rfl, h.place ha r2⟩
    · rw [if_neg hw, if_pos (by simp [hw])]
      exact ⟨t, by simp, h⟩
  · rw [hO]
    rcases hb with rfl | ⟨hb, hba⟩
    · simp [sibI]
    · have hb1 := (h.mem b).1 hb
      have hs : sibI b = 1048576 + b := by unfold sibI; rw [if_neg (by omega)]
      have := idxF_mem (offL_mem.2 ⟨hb, hba⟩)
      rw [hs, cm_idx]
      simp; omega
end

/-! ### The document's -/
def sig0 (n : Nat) : List Int := (List.range n).map fun (j : Nat) => (j : Int) + 1
theorem sig0_len (n : Nat) : (sig0 n).length = n := by simp [sig0]
theorem sig0_at {n i : Nat} (h : i < n) : (sig0 n)[i]'(by rw [sig0_len]; exact h) = (i : Int) + 1 := by simp [sig0]
theorem sig0_nd (n : Nat) : (sig0 n).Nodup := by
  unfold sig0 List.Nodup
  rw [List.pairwise_map]
  exact (List.nodup_range (n := n)).imp fun h e => h (by omega)
theorem sig0_mem {n : Nat} {x : Int} : x ∈ sig0 n ↔ 1 ≤ x ∧ x ≤ n := by
  unfold sig0
  rw [List.mem_map]
  constructor
  · rintro ⟨j, hj, rfl⟩
    have := List.mem_range.1 hj
    omega
  · intro h
    exact ⟨(x - 1).toNat, List.mem_range.2 (by omega), by omega⟩
theorem sig0_idx {n i : Nat} (h : i < n) : idxF (sig0 n) ((i : Int) + 1) 0 = i := by
  refine idxF_eq (sig0_nd n) ?_
  rw [List.getElem?_eq_getElem (by rw [sig0_len]; exact h), sig0_at h]
theorem nums_kA (ats : List Rc) (i : Nat) : nums (kA ats i) = sig0 i := by
  unfold nums kA sig0
  rw [List.map_map]; rfl
theorem kAt_kA {ats : List Rc} {n i : Nat} (h : i < n) : kAt (kA ats n) i = ⟨(i : Int) + 1, rAt ats i⟩ := by
  rw [kAt_eq (by rw [kA_len]; exact h)]
  simp [kA]
theorem kA_ins {ats : List Rc} (h : ∀ r ∈ ats, r.In) (n : Nat) : Ins (kA ats n) := by
  intro k hk
  obtain ⟨j, _, rfl⟩ := List.mem_map.1 hk
  exact rAt_in h j
theorem hidR_eq {ats : List Rc} {n i k : Nat} (hi : i < n) (hk : k < n) : hidR (kA ats n) i k = hidS ats (sig0 n) ((i : Int) + 1) ((k : Int) + 1) := by
  unfold hidR hidS rNo
  rw [kAt_kA hi, kAt_kA hk, sig0_idx hi, sig0_idx hk]
  rw [show ((i : Int) + 1 - 1).toNat = i by omega, show ((k : Int) + 1 - 1).toNat = k by omega]
theorem off_sig0 {n i : Nat} (h : i < n) : offL (sig0 n) ((i : Int) + 1) = (sig0 n).eraseIdx i := by
  rw [erase_off (sig0_nd n) (k := i) (by rw [sig0_len]; exact h), sig0_at h]
theorem idx_off {n i k : Nat} (hi : i < n) (hk : k < n) (hne : k ≠ i) : idxF (offL (sig0 n) ((i : Int) + 1)) ((k : Int) + 1) 0 = if k < i then (k : Int) else (k : Int) - 1 := by
  have hnd : (offL (sig0 n) ((i : Int) + 1)).Nodup := offL_nd (sig0_nd n)
  rw [off_sig0 hi] at hnd ⊢
  by_cases h : k < i
  · rw [if_pos h]
    refine idxF_eq hnd ?_
    rw [List.getElem?_eraseIdx_of_lt h, List.getElem?_eq_getElem (by rw [sig0_len]; exact hk), sig0_at hk]
  · rw [if_neg h]
    have : idxF ((sig0 n).eraseIdx i) ((k : Int) + 1) 0 = ((k - 1 : Nat) : Int) := by
      refine idxF_eq hnd ?_
      rw [List.getElem?_eraseIdx_of_ge (by omega), show k - 1 + 1 = k by omega, List.getElem?_eq_getElem (by rw [sig0_len]; exact hk), sig0_at hk]
    rw [this]; omega
theorem hidn_eq {ats : List Rc} {n i : Nat} (hi : i < n) {k : Int} (hk : k = -1 ∨ (0 ≤ k ∧ k < n ∧ k ≠ i)) : hidnR (kA ats n) i k = hnS ats (sig0 n) ((i : Int) + 1) (k + 1) := by
  unfold hidnR hnS
  rw [kA_len, Bool.eq_iff_iff, anyU_iff]
  rcases hk with rfl | ⟨h0, h1, h2⟩
  · rw [if_pos (by omega), List.any_eq_true]
    constructor
    · rintro ⟨j, _, hj, hp⟩
      simp only [show ((-1 : Int) < 0) by omega, decide_true, Bool.true_or, Bool.true_and] at hp
      rw [hidR_eq (by omega) hi] at hp
      refine ⟨(j : Int) + 1, offL_mem.2 ⟨sig0_mem.2 (by omega), fun e => ?_⟩, hp⟩
      unfold hidS at hp
      rw [e] at hp
      simp at hp
    · rintro ⟨w, hw, hp⟩
      obtain ⟨hw, _⟩ := offL_mem.1 hw
      have := sig0_mem.1 hw
      refine ⟨(w - 1).toNat, Nat.zero_le _, by omega, ?_⟩
      simp only [show ((-1 : Int) < 0) by omega, decide_true, Bool.true_or, Bool.true_and]
      rw [hidR_eq (by omega) hi, show (((w - 1).toNat : Nat) : Int) + 1 = w by omega]
      exact hp
  · rw [if_neg (by omega)]
    obtain ⟨j, rfl⟩ : ∃ j : Nat, k = j := ⟨k.toNat, by omega⟩
    constructor
    · rintro ⟨j', _, hj, hp⟩
      simp only [Bool.and_eq_true, Bool.or_eq_true, decide_eq_true_eq] at hp
      obtain ⟨hp1, hp2⟩ := hp
      have : j' = j := by omega
      subst this
      rw [hidR_eq (by omega) hi] at hp2
      exact hp2
    · intro hp
      refine ⟨j, Nat.zero_le _, by omega, ?_⟩
      rw [hidR_eq (by omega) hi, hp]
      simp
theorem hidg_eq {ats : List Rc} {n i : Nat} (hi : i < n) {k : Int} (hk : k = -1 ∨ (0 ≤ k ∧ k < n ∧ k ≠ i)) : hidgR (kA ats n) i k = hgS ats (sig0 n) ((i : Int) + 1) (k + 1) := by
  unfold hidgR hgS
  rw [kA_len, Bool.eq_iff_iff, anyU_iff]
  rcases hk with rfl | ⟨h0, h1, h2⟩
  · rw [if_pos (by omega), List.any_eq_true]
    constructor
    · rintro ⟨j, _, hj, hp⟩
      simp only [show ((-1 : Int) < 0) by omega, decide_true, Bool.true_or, Bool.true_and] at hp
      rw [hidR_eq hi (by omega)] at hp
      refine ⟨(j : Int) + 1, offL_mem.2 ⟨sig0_mem.2 (by omega), fun e => ?_⟩, hp⟩
      unfold hidS at hp
      rw [e] at hp
      simp at hp
    · rintro ⟨w, hw, hp⟩
      obtain ⟨hw, _⟩ := offL_mem.1 hw
      have := sig0_mem.1 hw
      refine ⟨(w - 1).toNat, Nat.zero_le _, by omega, ?_⟩
      simp only [show ((-1 : Int) < 0) by omega, decide_true, Bool.true_or, Bool.true_and]
      rw [hidR_eq hi (by omega), show (((w - 1).toNat : Nat) : Int) + 1 = w by omega]
      exact hp
  · rw [if_neg (by omega)]
    obtain ⟨j, rfl⟩ : ∃ j : Nat, k = j := ⟨k.toNat, by omega⟩
    constructor
    · rintro ⟨j', _, hj, hp⟩
      simp only [Bool.and_eq_true, Bool.or_eq_true, decide_eq_true_eq] at hp
      obtain ⟨hp1, hp2⟩ := hp
      have : j' = j := by omega
      subst this
      rw [hidR_eq hi (by omega)] at hp2
      exact hp2
    · intro hp
      refine ⟨j, Nat.zero_le _, by omega, ?_⟩
      rw [hidR_eq hi (by omega), hp]
      simp
theorem er_map {α β : Type} {f : α → β} : ∀ {l : List α} {i : Nat}, (l.map f).eraseIdx i = (l.eraseIdx i).map f
  | [], _ => rfl
  | x :: r, 0 => rfl
  | x :: r, i + 1 => by simp [er_map (l := r) (i := i)]
theorem nums_mov {ats : List Rc} {n i to : Nat} (hi : i < n) : nums (movR (kA ats n) i to) = ins (offL (sig0 n) ((i : Int) + 1)) to ((i : Int) + 1) := by
  unfold movR insK ins
  rw [kAt_kA hi, off_sig0 hi, ← nums_kA ats]
  unfold nums
  rw [er_map]
  simp
theorem restackR_eq {ats : List Rc} {n i : Nat} (hi : i < n) {k mode : Int} (hk : k = -1 ∨ (0 ≤ k ∧ k < n ∧ k ≠ i)) : nums (restackR (kA ats n) i k mode) = newS ats (sig0 n) ((i : Int) + 1) (k + 1) mode := by
  have hlen : (offL (sig0 n) ((i : Int) + 1)).length + 1 = n := by
    have := nd_off (sig0_nd n) (id := (i : Int) + 1) (sig0_mem.2 (by omega))
    rwa [sig0_len] at this
  unfold restackR newS wayS
  rw [hidn_eq hi hk, hidg_eq hi hk, kA_len, show ((i : Int)).toNat = i by omega]
  rcases hk with rfl | ⟨h0, h1, h2⟩
  · rw [if_pos (by omega : (-1 : Int) < 0), if_pos (by omega : (-1 : Int) < 0), if_pos (by omega : (-1 : Int) + 1 = 0)]
    repeat' split
    all_goals simp_all [nums_mov, nums_kA]
    all_goals (try (congr 1; omega))
    all_goals (try omega)
  · obtain ⟨j, rfl⟩ : ∃ j : Nat, k = j := ⟨k.toNat, by omega⟩
    rw [if_neg (by omega : ¬ (j : Int) < 0), if_neg (by omega : ¬ (j : Int) < 0), if_neg (by omega : ¬ (j : Int) + 1 = 0), if_neg (by omega : ¬ (j : Int) + 1 = 0), idx_off hi (by omega) (by omega)]
    by_cases hji : j < i
    · have hji' : (j : Int) < i := by omega
      repeat' split
      all_goals simp_all [nums_mov, nums_kA]
      all_goals (try (congr 1; omega))
      all_goals (try omega)
    · have hji' : ¬ (j : Int) < i := by omega
      repeat' split
      all_goals simp_all [nums_mov, nums_kA]
      all_goals (try (congr 1; omega))
      all_goals (try omega)
end Go.AM
