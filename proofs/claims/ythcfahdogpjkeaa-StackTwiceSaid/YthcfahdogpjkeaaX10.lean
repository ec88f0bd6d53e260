
/- Chapter 29: the scenes. -/
import Derived.Test.YthcfahdogpjkeaaX9
set_option linter.all false
namespace Go.AM
open Go Go.Proofs

theorem lk_app {α : Type} : ∀ {a b : List (Int × α)} {n : Int}, lk (a ++ b) n = (lk a n).or (lk b n)
  | [], b, n => by simp [lk]
  | p :: r, b, n => by
    simp only [List.cons_append, lk]
    split
    · simp
    · exact lk_app
def fam {α : Type} (p : Nat → Bool) (c : Int) (f : Nat → α) (i : Nat) : List (Int × α) := ((List.range i).filter p).map fun (j : Nat) => (c + (j : Int), f j)
theorem fam_succ {α : Type} {p : Nat → Bool} {c : Int} {f : Nat → α} {i : Nat} : fam p c f (i + 1) = if p i then fam p c f i ++ [(c + (i : Int), f i)] else fam p c f i := by
  unfold fam
  rw [List.range_succ, List.filter_append, List.map_append]
  cases h : p i <;> simp [h]
theorem lk_fam {α : Type} {p : Nat → Bool} {c : Int} {f : Nat → α} {x : Int} : ∀ {i : Nat}, lk (fam p c f i) x = if 0 ≤ x - c ∧ x - c < i ∧ p (x - c).toNat = true then some (f (x - c).toNat) else none
  | 0 => by rw [if_neg (by omega)]; rfl
  | i + 1 => by
    rw [fam_succ]
    by_cases hx : x = c + i
    · have e : (x - c).toNat = i := by omega
      have hn : lk (fam p c f i) x = none := by rw [lk_fam, if_neg (by omega)]
      by_cases hp : p i = true
      · rw [if_pos hp, lk_app, hn, if_pos ⟨by omega, by omega, by rw [e]; exact hp⟩, e]
        simp [lk, hx]
      · rw [if_neg hp, hn, if_neg (by rw [e]; exact fun h => hp h.2.2)]
    · have h1 : (if p i = true then fam p c f i ++ [(c + (i : Int), f i)] else fam p c f i) = fam p c f i ++ (if p i = true then [(c + (i : Int), f i)] else []) := by split <;> simp
      rw [h1, lk_app, lk_fam]
      have h2 : lk (if p i = true then [(c + (i : Int), f i)] else []) x = none := by
        split
        · simp only [lk]
          rw [if_neg (by omega)]
        · rfl
      rw [h2]
      by_cases hc : 0 ≤ x - c ∧ x - c < i ∧ p (x - c).toNat = true
      · rw [if_pos hc, if_pos ⟨hc.1, by omega, hc.2.2⟩]; rfl
      · rw [if_neg hc, if_neg (fun h => hc ⟨h.1, by omega, h.2.2⟩)]; rfl
theorem fam_keys {α : Type} {p : Nat → Bool} {c : Int} {f : Nat → α} {i : Nat} {x : Int} (h : x ∈ (fam p c f i).map (·.1)) : 0 ≤ x - c ∧ x - c < i := by
  unfold fam at h
  rw [List.map_map] at h
  obtain ⟨j, hj, rfl⟩ := List.mem_map.1 h
  have := List.mem_range.1 (List.mem_filter.1 hj |>.1)
  dsimp only [Function.comp]; omega
theorem fam_nd {α : Type} {p : Nat → Bool} {c : Int} {f : Nat → α} : ∀ {i : Nat}, NdK (fam p c f i)
  | 0 => List.nodup_nil
  | i + 1 => by
    rw [fam_succ]
    split
    · unfold NdK
      rw [List.map_append, List.nodup_append]
      refine ⟨fam_nd, by simp, ?_⟩
      rintro a ha b hb rfl
      have := fam_keys ha
      simp at hb; omega
    · exact fam_nd
theorem nd_two {α : Type} {a b : List (Int × α)} (ha : NdK a) (hb : NdK b) (h : ∀ x, x ∈ a.map (·.1) → x ∈ b.map (·.1) → False) : NdK (a ++ b) := by
  unfold NdK
  rw [List.map_append, List.nodup_append]
  refine ⟨ha, hb, ?_⟩
  rintro x hx y hy rfl
  exact h x hx hy
theorem fam_len {α : Type} {p : Nat → Bool} {c : Int} {f : Nat → α} {i : Nat} : (fam p c f i).length ≤ i := by
  unfold fam
  rw [List.length_map]
  exact Nat.le_trans (List.length_filter_le ..) (by simp)

def yes : Nat → Bool := fun _ => true
def bitD (deep : Int) (j : Nat) : Bool := decide (Int.ofNat ((deep / 2 ^ ((j : Int) % 8).toNat).toNat &&& (1 : Int).toNat) = 1)
def rAt (ats : List Rc) (j : Nat) : Rc := ats.getD j .o
def kA (ats : List Rc) (i : Nat) : List Kd := (List.range i).map fun (j : Nat) => ⟨(j : Int) + 1, rAt ats j⟩
def mA (ats : List Rc) (i : Nat) : Ats := fam yes 1048577 (rAt ats) i
def mB (ats : List Rc) (deep : Int) (j : Nat) : Ats := mA ats ats.length ++ fam (bitD deep) 1048676 (fun _ => (⟨0, 0, 5, 5⟩ : Rc)) j
def idsA (i : Nat) : List Int := (List.range i).map fun (j : Nat) => 1048577 + (j : Int)
def kidsA (i : Nat) : Kids := match i with | 0 => [] | i => [(1, idsA i)]
def tA (i : Nat) : TT := ⟨kidsA i, fam yes 1048577 (fun _ => (1 : Int)) i⟩
def tB (n : Nat) (deep : Int) (j : Nat) : TT := ⟨kidsA n ++ fam (bitD deep) 1048577 (fun (j : Nat) => [1048676 + (j : Int)]) j, fam yes 1048577 (fun _ => (1 : Int)) n ++ fam (bitD deep) 1048676 (fun (j : Nat) => 1048577 + (j : Int)) j⟩

theorem tB_0 (n : Nat) (deep : Int) : tB n deep 0 = tA n := by simp [tB, tA, fam]
theorem mB_0 (ats : List Rc) (deep : Int) : mB ats deep 0 = mA ats ats.length := by simp [mB, fam]
theorem kidsA_lk (n : Nat) (x : Int) : (lk (kidsA n) x).getD [] = if x = 1 then idsA n else [] := by
  match n with
  | 0 => simp [kidsA, lk, idsA]
  | n + 1 =>
    simp only [kidsA, lk]
    by_cases h : (1 : Int) = x
    · subst h; simp
    · rw [if_neg h, if_neg (Ne.symm h)]; rfl
theorem kidsA_none {n : Nat} {x : Int} (h : x ≠ 1) : lk (kidsA n) x = none := by
  match n with
  | 0 => rfl
  | n + 1 => simp only [kidsA, lk]; rw [if_neg (Ne.symm h)]
theorem tB_kids (n : Nat) (deep : Int) (j : Nat) (x : Int) : kidsT (tB n deep j) x = if x = 1 then idsA n else if 0 ≤ x - 1048577 ∧ x - 1048577 < j ∧ bitD deep (x - 1048577).toNat = true then [x + 99] else [] := by
  unfold kidsT tB
  dsimp only
  rw [lk_app]
  by_cases h : x = 1
  · rw [if_pos h]
    have := kidsA_lk n x
    rw [if_pos h] at this
    rw [lk_fam, if_neg (by omega)]
    cases hk : lk (kidsA n) x with
    | none => rw [hk] at this; simpa using this
    | some l => rw [hk] at this; simpa using this
  · rw [if_neg h, kidsA_none h, lk_fam]
    by_cases hc : 0 ≤ x - 1048577 ∧ x - 1048577 < j ∧ bitD deep (x - 1048577).toNat = true
    · rw [if_pos hc, if_pos hc]
      simp; omega
    · rw [if_neg hc, if_neg hc]; rfl
theorem tB_up (n : Nat) (deep : Int) (j : Nat) (x : Int) : lk (tB n deep j).up x = if 0 ≤ x - 1048577 ∧ x - 1048577 < n then some 1 else if 0 ≤ x - 1048676 ∧ x - 1048676 < j ∧ bitD deep (x - 1048676).toNat = true then some (x - 99) else none := by
  unfold tB
  dsimp only
  rw [lk_app, lk_fam, lk_fam]
  by_cases h : 0 ≤ x - 1048577 ∧ x - 1048577 < n
  · rw [if_pos ⟨h.1, h.2, rfl⟩, if_pos h]; rfl
  · rw [if_neg (fun h' => h ⟨h'.1, h'.2.1⟩), if_neg h]
    by_cases hc : 0 ≤ x - 1048676 ∧ x - 1048676 < j ∧ bitD deep (x - 1048676).toNat = true
    · rw [if_pos hc, if_pos hc]
      simp; omega
    · rw [if_neg hc, if_neg hc]; rfl
theorem tB_len (n : Nat) (deep : Int) (j : Nat) : (tB n deep j).up.length ≤ n + j := by
  unfold tB
  dsimp only
  rw [List.length_append]
  exact Nat.add_le_add fam_len fam_len
theorem idsA_len (n : Nat) : (idsA n).length = n := by simp [idsA]
theorem kidsA_nd (n : Nat) : NdK (kidsA n) := by
  match n with
  | 0 => exact List.nodup_nil
  | n + 1 => simp [kidsA, NdK]
theorem kidsA_keys {n : Nat} {x : Int} (h : x ∈ (kidsA n).map (·.1)) : x = 1 := by
  match n, h with
  | n + 1, h => simpa [kidsA] using h
theorem tB_ok {n : Nat} (hn : n ≤ 8) (deep : Int) {j : Nat} (hj : j ≤ n) : (tB n deep j).Ok := by
  refine ⟨nd_two (kidsA_nd n) fam_nd ?_, nd_two fam_nd fam_nd ?_, fun id => ?_, ?_⟩
  · intro x h1 h2
    have := kidsA_keys h1
    have := fam_keys h2
    omega
  · intro x h1 h2
    have := fam_keys h1
    have := fam_keys h2
    omega
  · rw [tB_kids]
    split
    · rw [idsA_len]; omega
    · split <;> simp
  · have := tB_len n deep j; omega
theorem tA_succ (i : Nat) : putT (tA i) (1048577 + (i : Int)) 1 = tA (i + 1) := by
  have hk : kidsT (tA i) 1 = idsA i := by
    have := tB_kids i 0 0 1
    rwa [tB_0, if_pos rfl] at this
  have hu : lk (tA i).up (1048577 + (i : Int)) = none := by
    have := tB_up i 0 0 (1048577 + (i : Int))
    rwa [tB_0, if_neg (by omega), if_neg (by omega)] at this
  unfold putT
  rw [hk, put_absent hu]
  unfold tA
  rw [fam_succ, if_pos (show yes i = true from rfl)]
  congr 1
  dsimp only
  have e : idsA (i + 1) = idsA i ++ [1048577 + (i : Int)] := by simp [idsA, List.range_succ]
  rw [← e]
  match i with
  | 0 => rfl
  | i + 1 => simp [kidsA, put]
theorem tB_succ {n : Nat} {deep : Int} {j : Nat} (hj : j < n) (hn : n ≤ 8) (hb : bitD deep j = true) : putT (tB n deep j) (1048676 + (j : Int)) (1048577 + (j : Int)) = tB n deep (j + 1) := by
  have hk0 : lk (tB n deep j).kids (1048577 + (j : Int)) = none := by
    unfold tB
    dsimp only
    rw [lk_app, kidsA_none (by omega), lk_fam, if_neg (by omega)]; rfl
  have hk : kidsT (tB n deep j) (1048577 + (j : Int)) = [] := by unfold kidsT; rw [hk0]; rfl
  have hu : lk (tB n deep j).up (1048676 + (j : Int)) = none := by
    rw [tB_up, if_neg (by omega), if_neg (by omega)]
  unfold putT
  rw [hk, put_absent hu, put_absent hk0]
  unfold tB
  dsimp only
  rw [fam_succ, if_pos hb, fam_succ, if_pos hb]
  simp
theorem tB_skip {n : Nat} {deep : Int} {j : Nat} (hb : bitD deep j = false) : tB n deep (j + 1) = tB n deep j := by
  unfold tB
  rw [fam_succ, if_neg (by simp [hb]), fam_succ, if_neg (by simp [hb])]
theorem mB_skip {ats : List Rc} {deep : Int} {j : Nat} (hb : bitD deep j = false) : mB ats deep (j + 1) = mB ats deep j := by
  unfold mB
  rw [fam_succ, if_neg (by simp [hb])]
theorem mA_succ (ats : List Rc) (i : Nat) : put (mA ats i) (1048577 + (i : Int)) (rAt ats i) = mA ats (i + 1) := by
  have h : lk (mA ats i) (1048577 + (i : Int)) = none := by unfold mA; rw [lk_fam, if_neg (by omega)]
  rw [put_absent h]
  unfold mA
  rw [fam_succ, if_pos (show yes i = true from rfl)]
theorem mB_succ {ats : List Rc} {deep : Int} {j : Nat} (hj : j < ats.length) (hn : ats.length ≤ 8) (hb : bitD deep j = true) : put (mB ats deep j) (1048676 + (j : Int)) ⟨0, 0, 5, 5⟩ = mB ats deep (j + 1) := by
  have h : lk (mB ats deep j) (1048676 + (j : Int)) = none := by
    unfold mB mA
    rw [lk_app, lk_fam, if_neg (by omega), lk_fam, if_neg (by omega)]; rfl
  rw [put_absent h]
  unfold mB
  rw [fam_succ, if_pos hb]
  simp
theorem mB_nd {ats : List Rc} {deep : Int} {j : Nat} (hn : ats.length ≤ 8) : NdK (mB ats deep j) := by
  refine nd_two fam_nd fam_nd ?_
  intro x h1 h2
  have := fam_keys h1
  have := fam_keys h2
  omega
theorem add_A {i : Nat} (hi : i < 8) : addC (tA i) (1048577 + (i : Int)) 1 = 0 ∧ addT (tA i) (1048577 + (i : Int)) 1 = tA (i + 1) := by
  have hu : lk (tA i).up (1048577 + (i : Int)) = none := by
    have := tB_up i 0 0 (1048577 + (i : Int))
    rwa [tB_0, if_neg (by omega), if_neg (by omega)] at this
  have hl := tB_len i 0 0
  rw [tB_0] at hl
  have hc : checkI (1048577 + (i : Int)) = 0 := by
    have e1 : (1048577 + (i : Int)) % 1048576 = 1 + i := by omega
    have e2 : (1048577 + (i : Int)) / 1048576 = 1 := by omega
    have hne : ¬ (1 + (i : Int) = 0) := by omega
    have hcl : clP (1048577 + (i : Int)) = (1, true) := by
      unfold clP
      rw [if_neg (by omega), e1, e2]
      simp [isCl, hne]
    unfold checkI
    rw [if_neg (by omega), hcl]; rfl
  have h0 : addC (tA i) (1048577 + (i : Int)) 1 = 0 := by
    unfold addC
    rw [if_neg (by simp [hc]), if_neg, if_neg, if_neg (by omega)]
    · unfold hasT; simp
    · unfold hasT; rw [hu]; simp; omega
  exact ⟨h0, by unfold addT; rw [if_pos h0, tA_succ]⟩
theorem add_B {n : Nat} {deep : Int} {j : Nat} (hj : j < n) (hn : n ≤ 8) (hb : bitD deep j = true) : addC (tB n deep j) (1048676 + (j : Int)) (1048577 + (j : Int)) = 0 ∧ addT (tB n deep j) (1048676 + (j : Int)) (1048577 + (j : Int)) = tB n deep (j + 1) := by
  have hu : lk (tB n deep j).up (1048676 + (j : Int)) = none := by
    rw [tB_up, if_neg (by omega), if_neg (by omega)]
  have hp : lk (tB n deep j).up (1048577 + (j : Int)) = some 1 := by
    rw [tB_up, if_pos (by omega)]
  have hl := tB_len n deep j
  have hc : checkI (1048676 + (j : Int)) = 0 := by
    have e1 : (1048676 + (j : Int)) % 1048576 = 100 + j := by omega
    have e2 : (1048676 + (j : Int)) / 1048576 = 1 := by omega
    have hne : ¬ (100 + (j : Int) = 0) := by omega
    have hcl : clP (1048676 + (j : Int)) = (1, true) := by
      unfold clP
      rw [if_neg (by omega), e1, e2]
      simp [isCl, hne]
    unfold checkI
    rw [if_neg (by omega), hcl]; rfl
  have h0 : addC (tB n deep j) (1048676 + (j : Int)) (1048577 + (j : Int)) = 0 := by
    unfold addC
    rw [if_neg (by simp [hc]), if_neg, if_neg, if_neg (by omega)]
    · unfold hasT; rw [hp]; simp
    · unfold hasT; rw [hu]; simp; omega
  exact ⟨h0, by unfold addT; rw [if_pos h0, tB_succ hj hn hb]⟩
end Go.AM
