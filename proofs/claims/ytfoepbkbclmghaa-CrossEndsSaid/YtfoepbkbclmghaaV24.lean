
/- Chapter 36: who is in, on any way. -/
import Derived.Test.YtfoepbkbclmghaaV22
set_option linter.all false
namespace Go.AM
open Go Go.Proofs

abbrev Ins := List (Int × Bool)
def bKV (u : Ins) : KV := u.map fun p => (p.1, .bool p.2)
def inB (u : Ins) (x : Int) : Bool := (lk u x).getD false
theorem bKV_nd {u : Ins} (h : NdK u) : NdK (bKV u) := (nd_mapv (f := fun b : Bool => D.bool b)).2 h
theorem bKV_put {u : Ins} {n : Int} {b : Bool} : put (bKV u) n (.bool b) = bKV (put u n b) := put_mapv (f := fun b : Bool => D.bool b)
theorem bKV_erase {u : Ins} {i : Nat} : (bKV u).eraseIdx i = bKV (u.eraseIdx i) := mapv_erase (f := fun b : Bool => D.bool b)
theorem lowL_bKV {n : Nat} : ∀ {u : Ins}, lowL n (mpV (bKV u)) = true
  | [] => rfl
  | p :: r => by simp only [bKV, mpV, List.map_cons, lowL, low, Bool.true_and]; exact lowL_bKV (u := r)
theorem closedL_bKV : ∀ {u : Ins}, closedL (mpV (bKV u)) = true
  | [] => rfl
  | p :: r => by simp only [bKV, mpV, List.map_cons, closedL]; exact closedL_bKV (u := r)
theorem pr_inB {bx : List Ent} {j : Nat} {u : Ins} (hj : entN bx j = some (mapE .u32 (bKV u))) (hn : NdK u) (x : Int) : PrM Try.prog gtab (.lkp 39 false) [.ownm j 0, .int .u32 x] bx (.bool (inB u x)) bx := by
  have h := pr_seen hj (bKV_nd hn) x
  have e : lkD false (lk (bKV u) x) (.bool false) = .bool (inB u x) := by
    unfold bKV inB
    rw [lk_mapv (f := fun b => D.bool b)]
    cases lk u x <;> rfl
  rw [e] at h; exact h

def stayB (s : Stp) : Bool := decide (s.det = 2)
def stepIn (u : Ins) (s : Stp) : Ins := put u s.id (s.en || stayB s)
def runIn (u : Ins) (l : List Stp) : Ins := l.foldl stepIn u
theorem runIn_nd {l : List Stp} : ∀ {u : Ins}, NdK u → NdK (runIn u l) := by
  induction l with
  | nil => exact fun h => h
  | cons s l ih => exact fun h => ih (put_nd h)
theorem runIn_snoc (u : Ins) (l : List Stp) (s : Stp) : runIn u (l ++ [s]) = stepIn (runIn u l) s := by simp [runIn]
theorem inB_step (u : Ins) (s : Stp) (x : Int) : inB (stepIn u s) x = if s.id = x then (s.en || stayB s) else inB u x := by
  unfold inB stepIn
  rw [lk_put]
  split <;> rfl
theorem runIn_other {x : Int} : ∀ {l : List Stp} {u : Ins}, x ∉ l.map (·.id) → inB (runIn u l) x = inB u x
  | [], _, _ => rfl
  | s :: l, u, h => by
    simp only [List.map_cons, List.mem_cons, not_or] at h
    show inB (runIn (stepIn u s) l) x = _
    rw [runIn_other h.2, inB_step, if_neg (Ne.symm h.1)]
theorem runIn_at : ∀ {l : List Stp} {u : Ins} {s : Stp}, (l.map (·.id)).Nodup → s ∈ l → inB (runIn u l) s.id = (s.en || stayB s)
  | t :: l, u, s, hn, hs => by
    simp only [List.map_cons, List.nodup_cons] at hn
    show inB (runIn (stepIn u t) l) s.id = _
    rcases List.mem_cons.1 hs with rfl | hs
    · rw [runIn_other hn.1, inB_step, if_pos rfl]
    · exact runIn_at hn.2 hs

/-- What a step does. -/
structure SOk (a b : List Int) (s : Stp) : Prop where
  was : (if s.det = 2 then s.id ∈ a else (s.id ∈ a ↔ s.en = false))
  now : s.id ∈ b ↔ (s.en || stayB s) = true
theorem sok {a b : List Int} {x : Int} {en : Bool} {d : Int} (h1 : if d = 2 then x ∈ a else (x ∈ a ↔ en = false)) (h2 : x ∈ b ↔ (en = true ∨ d = 2)) : SOk a b ⟨x, en, d⟩ := ⟨h1, by rw [h2]; simp [stayB]⟩
theorem sok_map {a b l : List Int} {en : Bool} {d : Int} (hd : d ≠ 2) (h1 : ∀ x ∈ l, (x ∈ a ↔ en = false)) (h2 : ∀ x ∈ l, (x ∈ b ↔ en = true)) : ∀ s ∈ l.map (mkS en d), SOk a b s := fun s hs => by
  obtain ⟨x, hx, rfl⟩ := List.mem_map.1 hs
  exact sok (by rw [if_neg hd]; exact h1 x hx) (by rw [h2 x hx]; simp [hd])
structure COk (a b : List Int) (l : List Stp) : Prop where
  step : ∀ s ∈ l, SOk a b s
  rest : ∀ x, x ∉ l.map (·.id) → (x ∈ a ↔ x ∈ b)
theorem cross_ok {L : Nodes} {f g : Int} {a b : List Int} (ha : PW L f a) (hb : PW L g b) (hs : f = g → a = b) : COk a b (crossS a b f g) := by
  by_cases hfg : f = g
  · have := hs hfg
    subst hfg this
    rw [cross_same]
    exact ⟨fun s h => (by cases h), fun x _ => Iff.rfl⟩
  by_cases han : a = []
  · by_cases hbn : b = []
    · subst han hbn
      rw [cross_no]
      exact ⟨fun s h => (by cases h), fun x _ => Iff.rfl⟩
    · subst han
      obtain ⟨r, e, _⟩ := hb.cons hbn
      have h0 : 0 ∉ r := fun h => hb.nz 0 (by rw [e]; simp [h]) rfl
      rw [cross_in hfg e h0]
      refine ⟨fun s hs => ?_, fun x hx => ?_⟩
      · rcases List.mem_append.1 hs with hs | hs
        · exact sok_map (by decide) (fun x _ => by simp) (fun x hx => by rw [e]; simp at hx; simp [hx]) s hs
        · simp at hs; subst hs
          exact sok (by simp) (by rw [e]; simp)
      · rw [List.map_append, ids_map] at hx
        rw [e]; simp at hx ⊢; exact ⟨hx.2, hx.1⟩
  · obtain ⟨r, e, _⟩ := ha.cons han
    have h0 : 0 ∉ r := fun h => ha.nz 0 (by rw [e]; simp [h]) rfl
    by_cases hbn : b = []
    · subst hbn
      rw [cross_out hfg e h0]
      refine ⟨fun s hs => ?_, fun x hx => ?_⟩
      · rcases List.mem_cons.1 hs with rfl | hs
        · exact sok (by rw [e]; simp) (by simp)
        · exact sok_map (by decide) (fun x hx => by rw [e]; simp [hx]) (fun x hx => by simp) s hs
      · rw [List.map_cons, ids_map] at hx
        rw [e]; simp at hx ⊢; exact hx
    · obtain ⟨A, B, m, s, h⟩ := cross_meet ha hb hfg han hbn
      have na := h.na
      have nb := h.nb
      rw [h.ea] at na
      rw [h.eb] at nb
      rw [List.nodup_append] at na nb
      have hA : ∀ x ∈ A, (x ∈ a ↔ (false : Bool) = false) := fun x hx => by rw [h.ea]; simp [hx]
      have hA' : ∀ x ∈ A, (x ∈ b ↔ (false : Bool) = true) := fun x hx => by simp [h.dA x hx]
      have hB : ∀ x ∈ B, (x ∈ a ↔ (true : Bool) = false) := fun x hx => by simp [h.dB x hx]
      have hB' : ∀ x ∈ B, (x ∈ b ↔ (true : Bool) = true) := fun x hx => by rw [h.eb]; simp [hx]
      have hma : m ∈ a := by rw [h.ea]; simp
      have hmb : m ∈ b := by rw [h.eb]; simp
      have hrest : ∀ x, x ∉ A → x ∉ B → (x ∈ a ↔ x ∈ b) := fun x h1 h2 => by rw [h.ea, h.eb]; simp [h1, h2]
      rcases h.sh with ⟨e0, em, B', eB, e1, _⟩ | ⟨e0, em, A', eA, e1, _⟩ | ⟨A', B', eA, eB, e1, _⟩
      · rw [e1]
        subst em
        have hB1 : ∀ x ∈ B'.reverse, x ∈ B := fun x hx => by rw [eB]; simp at hx; simp [hx]
        have hg : g ∈ B := by rw [eB]; simp
        refine ⟨fun s hs => ?_, fun x hx => ?_⟩
        · rcases List.mem_cons.1 hs with rfl | hs
          · exact sok (by rw [if_pos rfl]; exact hma) (by simp [hmb])
          rcases List.mem_append.1 hs with hs | hs
          · exact sok_map (by decide) (fun x hx => hB x (hB1 x hx)) (fun x hx => hB' x (hB1 x hx)) s hs
          · simp at hs; subst hs
            exact sok (by simpa using hB g hg) (by simpa using hB' g hg)
        · rw [List.map_cons, List.map_append, ids_map] at hx
          simp at hx
          exact hrest x (by rw [e0]; simp) (by rw [eB]; simp; exact ⟨hx.2.2, hx.2.1⟩)
      · rw [e1]
        subst em
        have hA1 : ∀ x ∈ A', x ∈ A := fun x hx => by rw [eA]; simp [hx]
        have hf : f ∈ A := by rw [eA]; simp
        refine ⟨fun s hs => ?_, fun x hx => ?_⟩
        · rcases List.mem_cons.1 hs with rfl | hs
          · exact sok (by simpa using hA f hf) (by simpa using hA' f hf)
          rcases List.mem_append.1 hs with hs | hs
          · exact sok_map (by decide) (fun x hx => hA x (hA1 x hx)) (fun x hx => hA' x (hA1 x hx)) s hs
          · simp at hs; subst hs
            exact sok (by rw [if_pos rfl]; exact hma) (by simp [hmb])
        · rw [List.map_cons, List.map_append, ids_map] at hx
          simp at hx
          exact hrest x (by rw [eA]; simp; exact ⟨hx.1, hx.2.1⟩) (by rw [e0]; simp)
      · rw [e1]
        have hA1 : ∀ x ∈ A', x ∈ A := fun x hx => by rw [eA]; simp [hx]
        have hf : f ∈ A := by rw [eA]; simp
        have hB1 : ∀ x ∈ B'.reverse, x ∈ B := fun x hx => by rw [eB]; simp at hx; simp [hx]
        have hg : g ∈ B := by rw [eB]; simp
        refine ⟨fun s hs => ?_, fun x hx => ?_⟩
        · rcases List.mem_cons.1 hs with rfl | hs
          · exact sok (by simpa using hA f hf) (by simpa using hA' f hf)
          rcases List.mem_append.1 hs with hs | hs
          · rcases List.mem_append.1 hs with hs | hs
            · exact sok_map (by decide) (fun x hx => hA x (hA1 x hx)) (fun x hx => hA' x (hA1 x hx)) s hs
            · exact sok_map (by decide) (fun x hx => hB x (hB1 x hx)) (fun x hx => hB' x (hB1 x hx)) s hs
          · simp at hs; subst hs
            exact sok (by simpa using hB g hg) (by simpa using hB' g hg)
        · rw [List.map_cons, List.map_append, List.map_append, ids_map, ids_map] at hx
          simp at hx
          exact hrest x (by rw [eA]; simp; exact ⟨hx.1, hx.2.1⟩) (by rw [eB]; simp; exact ⟨hx.2.2.2, hx.2.2.1⟩)

theorem wayI_det {ps : List Int} {f : Int} {a b : List Int} (ha : WayI ps f a) (hb : WayI ps f b) : a = b := by
  by_cases han : a = []
  · by_cases hbn : b = []
    · rw [han, hbn]
    · obtain ⟨r, e, _⟩ := hb.pw.cons hbn
      obtain ⟨m, h0, h1, e1⟩ := hb.mem f (by rw [e]; simp)
      exact absurd e1 (ha.non han m h0 h1)
  · obtain ⟨r, e, ua⟩ := ha.pw.cons han
    by_cases hbn : b = []
    · obtain ⟨m, h0, h1, e1⟩ := ha.mem f (by rw [e]; simp)
      exact absurd e1 (hb.non hbn m h0 h1)
    · obtain ⟨r', e', ub⟩ := hb.pw.cons hbn
      exact ua.det ub

def trues (u : Ins) : Nat := (u.filter (·.2)).length
theorem trues_erase {u : Ins} {i : Nat} {p : Int × Bool} (h : u[i]? = some p) : trues u = trues (u.eraseIdx i) + (if p.2 then 1 else 0) := by
  have h1 := ((perm_erase h).filter (·.2)).length_eq
  unfold trues
  rw [h1, List.filter_cons]
  split <;> simp
theorem trues_of {u : Ins} {b : List Int} (hn : NdK u) (hb : b.Nodup) (h : ∀ x, inB u x = true ↔ x ∈ b) : trues u = b.length := by
  have h1 : ((u.filter (·.2)).map (·.1)).Nodup := (hn : (u.map (·.1)).Nodup).sublist (List.filter_sublist.map _)
  have h2 : ((u.filter (·.2)).map (·.1)).Perm b := by
    rw [List.perm_ext_iff_of_nodup h1 hb]
    intro x
    rw [← h x]
    unfold inB
    constructor
    · intro hx
      obtain ⟨p, hp, rfl⟩ := List.mem_map.1 hx
      obtain ⟨hp1, hp2⟩ := List.mem_filter.1 hp
      rw [lk_mem hn (d := p.2) hp1]; exact hp2
    · intro hx
      cases hl : lk u x with
      | none => rw [hl] at hx; cases hx
      | some c =>
        rw [hl] at hx
        exact List.mem_map.2 ⟨(x, c), List.mem_filter.2 ⟨mem_of_lk hl, hx⟩, rfl⟩
  unfold trues
  rw [← h2.length_eq]; simp
end Go.AM
