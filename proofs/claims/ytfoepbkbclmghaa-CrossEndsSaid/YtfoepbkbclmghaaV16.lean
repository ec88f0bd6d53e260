
/- Chapter 36: the way is the document's. -/
import Derived.Test.YtfoepbkbclmghaaV15
set_option linter.all false
namespace Go.AM
open Go Go.Proofs

theorem UpP.suffix {L : Nodes} {m : Int} {r : List Int} : ∀ {A : List Int} {id : Int}, UpP L id (A ++ m :: r) → UpP L m (m :: r)
  | [], id, h => by
    have e := h.2.1
    subst e
    exact h
  | _ :: A, _, h => UpP.suffix (A := A) h.2.2
theorem UpP.det {L : Nodes} : ∀ {l l' : List Int} {id : Int}, UpP L id l → UpP L id l' → l = l'
  | [], [], _, _, _ => rfl
  | [], _ :: _, _, h, h' => absurd h h'.1
  | _ :: _, [], _, h, h' => absurd h' h.1
  | x :: r, y :: r', id, h, h' => by
    rw [h.2.1, h'.2.1, h.2.2.det h'.2.2]
theorem meet_split : ∀ {a b : List Int}, (meetF a b).2 = true → ∃ A s, a = A ++ (meetF a b).1 :: s ∧ (∀ x ∈ A, x ∉ b) ∧ (meetF a b).1 ∈ b
  | [], _, h => by simp [meetF] at h
  | x :: r, b, h => by
    simp only [meetF] at h ⊢
    by_cases hx : x ∈ b
    · simp only [if_pos hx]
      exact ⟨[], r, rfl, by simp, hx⟩
    · simp only [if_neg hx] at h ⊢
      obtain ⟨A, s, h1, h2, h3⟩ := meet_split h
      exact ⟨x :: A, s, congrArg (x :: ·) h1, fun y hy => by
        rcases List.mem_cons.1 hy with rfl | hy
        · exact hx
        · exact h2 y hy, h3⟩
theorem meet_none : ∀ {a b : List Int}, (meetF a b).2 = false → ∀ x ∈ a, x ∉ b
  | [], _, _, x, hx => by cases hx
  | y :: r, b, h, x, hx => by
    simp only [meetF] at h
    by_cases hy : y ∈ b
    · simp [hy] at h
    · simp only [if_neg hy] at h
      rcases List.mem_cons.1 hx with rfl | hx
      · exact hy
      · exact meet_none h x hx
theorem meet_both {L : Nodes} {f g : Int} {a b : List Int} (ha : UpP L f a) (hb : UpP L g b) (nb : b.Nodup) (hm : (meetF a b).2 = true) :
    ∃ A B r, a = A ++ (meetF a b).1 :: r ∧ b = B ++ (meetF a b).1 :: r ∧ (∀ x ∈ A, x ∉ b) ∧ (∀ x ∈ B, x ∉ a) := by
  obtain ⟨A, s, h1, h2, h3⟩ := meet_split hm
  generalize (meetF a b).1 = m at *
  obtain ⟨B, r, h4⟩ := List.append_of_mem h3
  have e : m :: s = m :: r := by
    rw [h1] at ha
    rw [h4] at hb
    exact ha.suffix.det hb.suffix
  injection e with _ e
  subst e
  refine ⟨A, B, s, h1, h4, h2, fun x hx hxa => ?_⟩
  rw [h1] at hxa
  rcases List.mem_append.1 hxa with hA | hs
  · exact h2 x hA (by rw [h4]; exact List.mem_append_left _ hx)
  · rw [h4] at nb
    exact (List.nodup_append.1 nb).2.2 x hx x hs rfl

theorem idx_of {m : Int} {r : List Int} : ∀ {A : List Int} {i : Int}, m ∉ A → idxF (A ++ m :: r) m i = i + A.length
  | [], i, _ => by simp [idxF]
  | x :: A, i, h => by
    have h1 : ¬ m = x := fun e => h (by simp [e])
    have h2 : m ∉ A := fun e => h (by simp [e])
    simp only [List.cons_append, idxF, if_neg h1, idx_of h2, List.length_cons]
    omega
theorem above_to {x m : Int} {A r : List Int} (h : m ∉ A) : aboveL (x :: (A ++ m :: r)) m = A := by
  unfold aboveL
  simp only [List.mem_append, List.mem_cons, true_or, or_true, if_true, idx_of h]
  simp
theorem above_all {x e : Int} {r : List Int} (h : e ∉ r) : aboveL (x :: r) e = r := by
  unfold aboveL
  simp only [if_neg h]
theorem outS_all {b : List Int} {bt : Int} {en : Bool} {l : List Int} (h : ∀ x ∈ l, x ∉ b) : outS b bt en l = l.map (mkS en bt) := by
  unfold outS
  rw [List.filter_eq_self.2 fun x hx => by simp [h x hx]]
theorem outS_none {b : List Int} {bt : Int} {en : Bool} {l : List Int} (h : ∀ x ∈ l, x ∈ b) : outS b bt en l = [] := by
  unfold outS
  rw [List.filter_eq_nil_iff.2 fun x hx => by simp [h x hx]]
  rfl
theorem outS_app (b : List Int) (bt : Int) (en : Bool) (l l' : List Int) : outS b bt en (l ++ l') = outS b bt en l ++ outS b bt en l' := by
  unfold outS; simp [List.filter_append]

/-- A way up of a tree's window, or no way. -/
structure PW (L : Nodes) (id : Int) (l : List Int) : Prop where
  up : l = [] ∨ UpP L id l
  nd : l.Nodup
  nz : ∀ y ∈ l, y ≠ 0
  one : l = [] ∨ 1 ∈ l
theorem PW.cons {L : Nodes} {id : Int} {l : List Int} (h : PW L id l) (hn : l ≠ []) : ∃ r, l = id :: r ∧ UpP L id l := by
  rcases h.up with e | e
  · exact absurd e hn
  · cases l with
    | nil => exact absurd rfl hn
    | cons x r => exact ⟨r, by rw [e.2.1], e⟩

theorem ref_cross {L : Nodes} {f g : Int} {a b : List Int} (ha : PW L f a) (hb : PW L g b) (h1 : a = [] → f ∉ b) (h2 : b = [] → g ∉ a) : refS a b f g = crossS a b f g := by
  unfold refS crossS
  by_cases hfg : f = g
  · rw [if_pos (.inl hfg), if_pos hfg]
  rw [if_neg hfg]
  by_cases hab : a = [] ∧ b = []
  · obtain ⟨rfl, rfl⟩ := hab
    rw [if_pos (.inr ⟨rfl, rfl⟩)]
    simp [meetF]
  rw [if_neg (fun h => h.elim hfg hab)]
  cases hm : (meetF a b).2 with
  | false =>
    rw [if_pos rfl]
    have hd := meet_none hm
    have hg : g ∉ a := fun e => by
      by_cases hbn : b = []
      · exact h2 hbn e
      · obtain ⟨r, e1, _⟩ := hb.cons hbn
        exact hd g e (by rw [e1]; simp)
    have hf : f ∉ b := fun e => by
      by_cases han : a = []
      · exact h1 han e
      · obtain ⟨r, e1, _⟩ := ha.cons han
        exact hd f (by rw [e1]; simp) e
    rw [show refK a b f g = (3, 3, 4) by unfold refK; rw [if_neg hg, if_neg hf]]
    dsimp only
    congr 1
    · by_cases han : a = []
      · subst han; rfl
      · obtain ⟨r, e1, _⟩ := ha.cons han
        rw [if_neg han]
        subst e1
        rw [above_all (fun h => ha.nz 0 (by simp [h]) rfl)]
        simp only [refU]
        rw [outS_all fun x hx => hd x (by simp [hx])]
    · by_cases hbn : b = []
      · subst hbn; rfl
      · obtain ⟨r, e1, _⟩ := hb.cons hbn
        rw [if_neg hbn]
        subst e1
        rw [above_all (fun h => hb.nz 0 (by simp [h]) rfl)]
        simp only [refD]
        rw [outS_all fun x hx hxa => hd x hxa (by simp at hx; simp [hx])]
  | true =>
    rw [if_neg (by simp)]
    have hma := meet_in hm
    have han : a ≠ [] := fun e => by rw [e] at hma; cases hma.1
    have hbn : b ≠ [] := fun e => by rw [e] at hma; cases hma.2
    obtain ⟨ra, ea, ua⟩ := ha.cons han
    obtain ⟨rb, eb, ub⟩ := hb.cons hbn
    obtain ⟨A, B, r, e1, e2, hA, hB⟩ := meet_both ua ub hb.nd hm
    generalize (meetF a b).1 = m at *
    have hmA : m ∉ A := fun h => hA m h hma.2
    have hmB : m ∉ B := fun h => hB m h hma.1
    have hr_b : ∀ x ∈ m :: r, x ∈ b := fun x hx => by rw [e2]; exact List.mem_append_right _ hx
    have hr_a : ∀ x ∈ m :: r, x ∈ a := fun x hx => by rw [e1]; exact List.mem_append_right _ hx
    have hrr_b : ∀ x ∈ r, x ∈ b := fun x hx => hr_b x (by simp [hx])
    have hrr_a : ∀ x ∈ r.reverse, x ∈ a := fun x hx => hr_a x (by simp at hx; simp [hx])
    have oA : ∀ bt, ∀ A', (∀ x ∈ A', x ∈ A) → outS b bt false (A' ++ m :: r) = A'.map (mkS false bt) := fun bt A' h => by
      rw [outS_app, outS_all fun x hx => hA x (h x hx), outS_none hr_b, List.append_nil]
    have oB : ∀ bt, ∀ B', (∀ x ∈ B', x ∈ B) → outS a bt true (B' ++ m :: r).reverse = B'.reverse.map (mkS true bt) := fun bt B' h => by
      rw [List.reverse_append, outS_app, outS_all (l := B'.reverse) fun x hx => hB x (h x (by simpa using hx)), outS_none fun x hx => hr_a x (by rw [List.mem_reverse] at hx; exact hx), List.nil_append]
    cases A with
    | nil =>
      have e3 : m = f := by
        rw [ea] at e1
        injection e1 with h _
        exact h.symm
      subst e3
      rw [if_pos rfl]
      cases B with
      | nil =>
        rw [eb] at e2
        injection e2 with h _
        exact absurd h.symm hfg
      | cons y B =>
        have e4 : y = g := by
          rw [eb] at e2
          injection e2 with h _
          exact h.symm
        subst e4
        have hg : y ∉ a := hB y (by simp)
        rw [show refK a b m y = (2, 0, 1) by unfold refK; rw [if_neg hg, if_pos hma.2]]
        dsimp only
        have hU : refU a b 2 1 = [⟨m, false, 2⟩] := by rw [e1]; simp only [List.nil_append, refU, outS_none hrr_b]
        have hD : refD b a 0 1 = B.reverse.map (mkS true 1) ++ [⟨y, true, 0⟩] := by
          have := oB 1 B (fun x hx => by simp [hx])
          rw [e2]; simp only [List.cons_append, refD, this]
        have hab : aboveL b m = B := by rw [e2]; exact above_to fun h => hmB (by simp [h])
        rw [hU, hD, hab]; simp
    | cons x A =>
      have e3 : x = f := by
        rw [ea] at e1
        injection e1 with h _
        exact h.symm
      subst e3
      have hmx : ¬ m = x := fun e => hmA (by simp [e])
      rw [if_neg hmx]
      have hU : ∀ fi bt, refU a b fi bt = ⟨x, false, fi⟩ :: A.map (mkS false bt) := fun fi bt => by
        have := oA bt A (fun x hx => by simp [hx])
        rw [e1]; simp only [List.cons_append, refU, this]
      have haa : aboveL a m = A := by rw [e1]; exact above_to fun h => hmA (by simp [h])
      have hf : x ∉ b := hA x (by simp)
      cases B with
      | nil =>
        have e4 : m = g := by
          rw [eb] at e2
          injection e2 with h _
          exact h.symm
        subst e4
        rw [if_pos rfl]
        rw [show refK a b x m = (0, 2, 1) by unfold refK; rw [if_pos hma.1]]
        dsimp only
        have hD : refD b a 2 1 = [⟨m, true, 2⟩] := by rw [e2]; simp only [List.nil_append, refD, outS_none hrr_a]
        rw [hU, hD, haa]
      | cons y B =>
        have e4 : y = g := by
          rw [eb] at e2
          injection e2 with h _
          exact h.symm
        subst e4
        have hg : y ∉ a := hB y (by simp)
        have hmy : ¬ m = y := fun e => hmB (by simp [e])
        rw [if_neg hmy]
        rw [show refK a b x y = (3, 3, 4) by unfold refK; rw [if_neg hg, if_neg hf]]
        dsimp only
        have hD : refD b a 3 4 = B.reverse.map (mkS true 4) ++ [⟨y, true, 3⟩] := by
          have := oB 4 B (fun x hx => by simp [hx])
          rw [e2]; simp only [List.cons_append, refD, this]
        have hab : aboveL b m = B := by rw [e2]; exact above_to fun h => hmB (by simp [h])
        rw [hU, hD, haa, hab]; simp

theorem PathT.one {t : TT} : ∀ {l : List Int} {id : Int}, PathT t id l → 1 ∈ l
  | [], _, h => h.elim
  | x :: r, id, h => by
    obtain ⟨h1, h2⟩ := h
    by_cases e : id = 1
    · rw [h1, e]; simp
    · rw [if_neg e] at h2
      obtain ⟨u, _, h3⟩ := h2
      exact List.mem_cons_of_mem _ h3.one

/-- The way up of any id in a tree that is made. -/
structure WayI (ps : List Int) (id : Int) (l : List Int) : Prop where
  pw : PW (madeT ps).2 id l
  len : l.length ≤ ps.length + 1
  mem : ∀ y ∈ l, ∃ m : Int, 0 ≤ m ∧ m ≤ ps.length ∧ y = idN m
  non : l = [] → ∀ m : Int, 0 ≤ m → m ≤ ps.length → id ≠ idN m
  sp : TSp 21 [tD (madeT ps).1, .int .u32 id] (.ls 1 (iL l))
  spr : TSp 15 [.ls 2 (nD (madeT ps).2), .int .u32 id] (.ls 1 (iL l))
theorem has_old {ps : List Int} (hl : ps.length ≤ 60) {m : Int} (h0 : 0 ≤ m) (h1 : m ≤ ps.length) : hasT (madeT ps).1 (idN m) = true := by
  have h := mok_made hl
  unfold hasT
  by_cases hp0 : m = 0
  · subst hp0; simp [idN]
  · have : lk (madeT ps).1.up (idN m) ≠ none := by
      rw [Ne, lk_none, h.up, h.ids]
      intro hm
      exact hm (List.mem_map.2 ⟨(m - 1).toNat, List.mem_range.2 (by omega), by congr 1; omega⟩)
    cases hl : lk (madeT ps).1.up (idN m) with
    | none => exact absurd hl this
    | some _ => rfl
theorem wayI {ps : List Int} (hl : ps.length ≤ 60) (hb : ∀ p ∈ ps, 0 ≤ p) (id : Int) : ∃ l, WayI ps id l := by
  have hmok := mok_made hl
  by_cases h : ∃ m : Int, 0 ≤ m ∧ m ≤ ps.length ∧ id = idN m
  · obtain ⟨m, h0, h1, rfl⟩ := h
    obtain ⟨l, hw⟩ := ways_made hl hb m h0 h1
    have hne : l ≠ [] := fun e => by subst e; exact hw.path.elim
    have hh := has_old hl h0 h1
    refine ⟨l, ⟨⟨.inr hw.up, hw.nd, hw.nz, .inr hw.path.one⟩, hw.len, hw.mem, fun e => absurd e hne, sp_tree_Path hmok.ok hh hw.path (by have := hw.len; omega), sp_ref36_Up (by have := hmok.len; omega) ?_ hw.up (by have := hw.len; omega)⟩⟩
    unfold hasL
    by_cases hm0 : m = 0
    · subst hm0; rfl
    · have hup := hw.up
      have hpt := hw.path
      cases l with
      | nil => exact absurd rfl hne
      | cons x r =>
        have hn1 : idN m ≠ 1 := by unfold idN; rw [if_neg hm0]; omega
        obtain ⟨hx, hr⟩ := hpt
        rw [if_neg hn1] at hr
        obtain ⟨u, hu, hp⟩ := hr
        have hpar : parL (madeT ps).2 (idN m) = u := by unfold parL; rw [← hmok.up, hu]; rfl
        cases r with
        | nil => exact hp.elim
        | cons y r =>
          have := hw.nz y (by simp)
          have hyu : y = u := hp.1
          rw [hpar, ← hyu]
          simp [this]
  · have hno : lk (madeT ps).2 id = none := by
      rw [lk_none, hmok.ids]
      intro hm
      obtain ⟨i, hi, e⟩ := List.mem_map.1 hm
      have := List.mem_range.1 hi
      exact h ⟨i + 1, by omega, by omega, e.symm⟩
    have h1 : id ≠ 1 := fun e => h ⟨0, by omega, by omega, by rw [e]; rfl⟩
    refine ⟨[], ⟨⟨.inl rfl, by simp, by simp, .inl rfl⟩, by simp, by simp, fun _ m h0 h2 e => h ⟨m, h0, h2, e⟩, sp_tree_Path_no hmok.ok ?_, sp_ref36_Up_no (by have := hmok.len; omega) ?_⟩⟩
    · unfold hasT; rw [hmok.up, hno]; simp [h1]
    · unfold hasL parL; rw [hno]; simp [h1]
theorem ref_cross_made {ps : List Int} {f g : Int} {a b : List Int} (ha : WayI ps f a) (hb : WayI ps g b) : refS a b f g = crossS a b f g := by
  refine ref_cross ha.pw hb.pw (fun e hm => ?_) (fun e hm => ?_)
  · obtain ⟨m, h0, h1, e1⟩ := hb.mem _ hm
    exact ha.non e m h0 h1 e1
  · obtain ⟨m, h0, h1, e1⟩ := ha.mem _ hm
    exact hb.non e m h0 h1 e1
theorem sp_cross {ps : List Int} (hl : ps.length ≤ 60) {f g : Int} {a b : List Int} (ha : WayI ps f a) (hb : WayI ps g b) : TSp 12 [tD (madeT ps).1, .int .u32 f, .int .u32 g] (.ls 3 (sL (crossS a b f g))) := by
  refine sp_cross_Path ha.sp hb.sp (by have := ha.len; omega) (by have := hb.len; omega) ha.pw.nz hb.pw.nz (fun hn e => ?_) (fun hn e => ?_)
  · obtain ⟨r, e1, _⟩ := ha.pw.cons hn
    exact ha.pw.nz f (by rw [e1]; simp) e
  · obtain ⟨r, e1, _⟩ := hb.pw.cons hn
    exact hb.pw.nz g (by rw [e1]; simp) e
theorem cross_len {a b : List Int} {f g : Int} : (crossS a b f g).length ≤ a.length + b.length + 2 := by
  have h0 := above_len (p := a) (e := 0)
  have h1 := above_len (p := b) (e := 0)
  have h2 := above_len (p := a) (e := (meetF a b).1)
  have h3 := above_len (p := b) (e := (meetF a b).1)
  have h4 := above_len (p := a) (e := g)
  have h5 := above_len (p := b) (e := f)
  unfold crossS
  split
  · simp
  · split
    · split <;> split <;> simp_all <;> omega
    · split
      · simp; omega
      · split <;> simp <;> omega
end Go.AM
