/- Package-level variables: what is laid, as data. -/
import Derived.Test.YtoaialdcgmkbgaaDoorA21
import Derived.Lib.LaidU8
import Derived.LaidMore
import Derived.Lay
import Derived.Stop.Joined
set_option linter.all false
namespace Go.AM
open Go Go.RowKit Go.ChangeShapes Go.WideShapes Go.ChangeAt Go.Joins

/-- A laid datum's cells. -/
def dC : Nat → DataW Unit → Option (List D)
  | _, .lit (.int k n) => some [.int k n]
  | _, .lit (.bool b) => some [.bool b]
  | _, .lit (.string s) => some [.str s]
  | n + 1, .agg l => (l.mapM (dC n)).map List.flatten
  | _, _ => none

section
variable {P : Program} {w : World} {base : Nat} {spare : Nat → Bool} {held : Bool} {enc : TypeId × Value → Unit}

theorem mapM_two {α β : Type} {f : α → Option β} {a : α} {l : List α} {r : List β} (h : (a :: l).mapM f = some r) : ∃ b bs, f a = some b ∧ l.mapM f = some bs ∧ r = b :: bs := by
  rw [List.mapM_cons] at h
  cases ha : f a with
  | none => simp [ha] at h
  | some b =>
    cases hl : l.mapM f with
    | none => simp [ha, hl] at h
    | some bs => simp [ha, hl] at h; exact ⟨b, bs, rfl, rfl, h.symm⟩

def GOk (P : Program) (w : World) (base : Nat) (spare : Nat → Bool) (held : Bool) (enc : TypeId × Value → Unit) (n : Nat) : Prop :=
  ∀ {t : TypeId} {fuel : Nat} {cs : List Value} {x : DataW Unit × List MemPlace} {l : List D}, okT P n t = true → DataW.trod enc P w base spare held fuel t cs = some x → dC n x.1 = some l → RepL (K0 w) pl0 l cs ∧ ∀ c ∈ cs, c.oneCell' = true

theorem glob_fields {n : Nat} (ih : GOk P w base spare held enc n) {cs : List Value} : ∀ (fs : List Field) (xs : List (DataW Unit × List MemPlace)) (j : Nat) (ls : List (List D)), okF P (okT P n) j fs cs.length = true → xs.length = fs.length →
    (∀ (i : Nat) (f : Field) x, fs[i]? = some f → xs[i]? = some x → ∃ fuel, DataW.trod enc P w base spare held fuel f.type ((cs.drop f.offset).take (P.cellsOf f.type)) = some x) → (xs.map (·.1)).mapM (dC n) = some ls →
    RepL (K0 w) pl0 ls.flatten (cs.drop j) ∧ ∀ c ∈ cs.drop j, c.oneCell' = true
  | [], xs, j, ls, hok, hl, _, hm => by
    have : xs = [] := List.eq_nil_of_length_eq_zero (by simpa using hl)
    subst this
    simp at hm; subst hm
    simp only [okF, beq_iff_eq] at hok
    rw [List.drop_of_length_le (by omega)]
    exact ⟨by simp [RepL], fun c h => by simp at h⟩
  | f :: fs, [], j, ls, hok, hl, _, hm => by simp at hl
  | f :: fs, x :: xs, j, ls, hok, hl, hc, hm => by
    simp only [okF, Bool.and_eq_true, beq_iff_eq] at hok
    obtain ⟨ho, hS, hr⟩ := hok
    obtain ⟨b, bs, h1, h2, rfl⟩ := mapM_two (by rw [List.map_cons] at hm; exact hm)
    obtain ⟨fuel, hx⟩ := hc 0 f x (by simp) (by simp)
    obtain ⟨h3, h4⟩ := ih hS hx h1
    obtain ⟨h5, h6⟩ := glob_fields ih fs xs _ bs hr (by simpa using hl) (fun i g y hg hy => hc (i + 1) g y (by simpa using hg) (by simpa using hy)) h2
    rw [ho] at h3 h4
    have e : cs.drop j = (cs.drop j).take (P.cellsOf f.type) ++ cs.drop (j + P.cellsOf f.type) := by rw [← List.drop_drop, List.take_append_drop]
    rw [e]
    exact ⟨by rw [List.flatten_cons]; exact h3.append h5, fun u hu => (List.mem_append.1 hu).elim (h4 u) (h6 u)⟩

theorem glob_items {n : Nat} (ih : GOk P w base spare held enc n) {cs : List Value} {e : TypeId} (hS : okT P n e = true) : ∀ (xs : List (DataW Unit × List MemPlace)) (j : Nat) (ls : List (List D)), cs.length = (j + xs.length) * P.cellsOf e →
    (∀ (i : Nat) x, xs[i]? = some x → ∃ fuel, DataW.trod enc P w base spare held fuel e ((cs.drop ((j + i) * P.cellsOf e)).take (P.cellsOf e)) = some x) → (xs.map (·.1)).mapM (dC n) = some ls →
    RepL (K0 w) pl0 ls.flatten (cs.drop (j * P.cellsOf e)) ∧ ∀ c ∈ cs.drop (j * P.cellsOf e), c.oneCell' = true
  | [], j, ls, hl, _, hm => by
    simp at hm; subst hm
    rw [List.drop_of_length_le (by rw [hl]; simp)]
    exact ⟨by simp [RepL], fun c h => by simp at h⟩
  | x :: xs, j, ls, hl, hc, hm => by
    obtain ⟨b, bs, h1, h2, rfl⟩ := mapM_two (by rw [List.map_cons] at hm; exact hm)
    obtain ⟨fuel, hx⟩ := hc 0 x (by simp)
    obtain ⟨h3, h4⟩ := ih hS hx h1
    obtain ⟨h5, h6⟩ := glob_items ih hS xs (j + 1) bs (by rw [hl]; simp only [List.length_cons]; congr 1; omega) (fun i y hy => by have := hc (i + 1) y (by simpa using hy); rwa [show j + (i + 1) = j + 1 + i by omega] at this) h2
    simp only [Nat.add_zero] at h3 h4
    have e' : cs.drop (j * P.cellsOf e) = (cs.drop (j * P.cellsOf e)).take (P.cellsOf e) ++ cs.drop ((j + 1) * P.cellsOf e) := by
      rw [Nat.succ_mul, ← List.drop_drop, List.take_append_drop]
    rw [e']
    exact ⟨by rw [List.flatten_cons]; exact h3.append h5, fun u hu => (List.mem_append.1 hu).elim (h4 u) (h6 u)⟩

theorem glob_of_trod : ∀ (n : Nat), GOk P w base spare held enc n := by
  intro n
  induction n with
  | zero => intro t fuel cs x l h; simp [okT] at h
  | succ n ih =>
    intro t fuel cs x l hok h hd
    simp only [okT] at hok
    cases hu : P.underlying t with
    | none => rw [hu] at hok; simp at hok
    | some ud =>
      cases ud with
      | int k =>
        obtain ⟨m, rfl, rfl, _⟩ := DataW.trod_int hu h
        simp [dC] at hd; subst hd
        exact ⟨by simp [RepL, Rep], by simp [Value.oneCell']⟩
      | bool =>
        obtain ⟨m, rfl, rfl⟩ := DataW.trod_bool hu h
        simp [dC] at hd; subst hd
        exact ⟨by simp [RepL, Rep], by simp [Value.oneCell']⟩
      | string =>
        obtain ⟨s, rfl, rfl, _⟩ := DataW.trod_string hu h
        simp [dC] at hd; subst hd
        exact ⟨by simp [RepL, Rep], by simp [Value.oneCell']⟩
      | struct fs =>
        rw [hu] at hok
        obtain ⟨xs, m, _, rfl, hlen, hxl, hf⟩ := DataW.trod_struct hu h
        simp only at hok
        rw [← hlen] at hok
        simp only [dC] at hd
        obtain ⟨ls, hls, rfl⟩ := map_some hd
        have := glob_fields ih fs.toList xs 0 ls hok (by simpa using hxl) (fun i f x hi hx => by
          have h1 := hf i f (by simpa using hi)
          rw [hx] at h1
          exact ⟨_, h1⟩) hls
        simpa using this
      | array m e =>
        rw [hu] at hok
        obtain ⟨xs, m', _, rfl, hlen, hxl, hf⟩ := DataW.trod_array hu h
        simp only [Bool.and_eq_true, beq_iff_eq] at hok
        simp only [dC] at hd
        obtain ⟨ls, hls, rfl⟩ := map_some hd
        have := glob_items ih hok.1 xs 0 ls (by rw [hlen, hok.2, hxl]; simp) (fun i x hx => by
          have hi := (List.getElem?_eq_some_iff.1 hx).1
          have h1 := hf i (by omega)
          rw [hx] at h1
          exact ⟨_, by simpa using h1⟩) hls
        simpa using this
      | slice e =>
        exfalso
        rw [hu] at hok
        rcases DataW.trod_slice hu h with ⟨_, rfl⟩ | ⟨a, len, cap, elems, rest, m, _, _, rfl, _⟩ <;> simp [dC] at hd
      | _ => rw [hu] at hok; simp at hok
end

/-- An interface that is laid. -/
theorem glob_iface {P : Program} {w : World} {base : Nat} {spare : Nat → Bool} {held : Bool} {enc : TypeId × Value → Unit} {t : TypeId} {fuel : Nat} {cs : List Value} {n : String} {dd : DataW Unit} {ps : List MemPlace} {ms : Array (String × TypeId)} (hu : P.underlying t = some (.interface ms)) (h : DataW.trod enc P w base spare held fuel t cs = some (.iface n dd, ps)) : ∃ u v, cs = [.iface u v] := by
  cases fuel with
  | zero => simp [DataW.trod] at h
  | succ fuel =>
    unfold DataW.trod at h
    split at h <;> first | exact ⟨_, _, rfl⟩ | (rename_i hh; rw [hu] at hh; cases hh; done) | (rename_i hh _; rw [hu] at hh; cases hh; done) | (rename_i hh _ _; rw [hu] at hh; cases hh; done) | (simp at h; done)

/-- The table of the laid variables. -/
def gtOne (P : Program) (x : String × DataW Unit) : Option (Nat × List D) := match P.globalNamed x.1 with
    | some g => match (P.globals[g]?).map (·.type) with
      | some t => match okT P 8 t with
        | true => (dC 8 x.2).map fun l => (g, l)
        | false => match P.underlying t, x.2 with
          | some (.interface _), .iface _ _ => some (g, [.ifc false])
          | _, _ => none
      | none => none
    | none => none
def gtOf (P : Program) (laid : List (String × DataW Unit)) : Option (List (Nat × List D)) := laid.mapM (gtOne P)

def gtFind : List (Nat × List D) → Nat → Option (List D)
  | [], _ => none
  | (g, l) :: r, h => match Nat.beq g h with | true => some l | false => gtFind r h

theorem gtFind_mem : ∀ {tb : List (Nat × List D)} {g : Nat} {l : List D}, gtFind tb g = some l → (g, l) ∈ tb
  | [], _, _, h => by cases h
  | (g', l') :: r, g, l, h => by
    simp only [gtFind] at h
    split at h
    · rename_i hb
      cases h
      have := Nat.eq_of_beq_eq_true hb
      subst this; simp
    · exact List.mem_cons_of_mem _ (gtFind_mem h)

theorem mapM_mem {α β : Type} {f : α → Option β} : ∀ {l : List α} {r : List β}, l.mapM f = some r → ∀ b ∈ r, ∃ a ∈ l, f a = some b
  | [], r, h, b, hb => by simp at h; subst h; cases hb
  | a :: l, r, h, b, hb => by
    obtain ⟨x, xs, h1, h2, rfl⟩ := mapM_two h
    rcases List.mem_cons.1 hb with rfl | hb
    · exact ⟨a, by simp, h1⟩
    · obtain ⟨y, hy, h3⟩ := mapM_mem h2 b hb; exact ⟨y, by simp [hy], h3⟩

theorem glob_of_laid_sub {P : Program} {laid laid' : List (String × DataW Unit)} {W : World} {tb : List (Nat × List D)} (hL : laidMet P laid W) (hs : ∀ x ∈ laid', x ∈ laid) (ht : gtOf P laid' = some tb) : GlobOk (gtFind tb) (K0 W) := by
  intro g l hg
  obtain ⟨⟨n, d⟩, hm, hx⟩ := mapM_mem ht _ (gtFind_mem hg)
  obtain ⟨g', t, cs, fuel, p, h1, h2, h3, h4⟩ := Lib.laidMet.reads hL (hs _ hm)
  simp only [gtOne, h1, h2] at hx
  unfold World.var? at h3
  rw [h1] at h3
  simp only [Option.bind_some] at h3
  split at hx
  · rename_i hok
    obtain ⟨l', hl', he⟩ := map_some hx
    simp only [Prod.mk.injEq] at he
    obtain ⟨rfl, rfl⟩ := he
    obtain ⟨h5, h6⟩ := glob_of_trod 8 hok h4 hl'
    split at h3
    · rename_i c T fz hh
      cases h3
      exact ⟨_, T, fz, hh, h5, h6⟩
    · cases h3
  · split at hx
    · simp only [Option.some.injEq, Prod.mk.injEq] at hx
      obtain ⟨rfl, rfl⟩ := hx
      obtain ⟨u, v, hcs⟩ := glob_iface (by assumption) h4
      split at h3
      · rename_i c T fz hh
        cases h3
        refine ⟨_, T, fz, hh, ?_, ?_⟩
        · rw [hcs]; simp only [RepL, Rep]; exact ⟨_, _, rfl, ⟨u, v, rfl⟩, rfl⟩
        · rw [hcs]; simp [Value.oneCell']
      · cases h3
    · cases hx

theorem glob_of_laid {P : Program} {laid : List (String × DataW Unit)} {W : World} {tb : List (Nat × List D)} (hL : laidMet P laid W) (ht : gtOf P laid = some tb) : GlobOk (gtFind tb) (K0 W) := glob_of_laid_sub hL (fun _ h => h) ht
end Go.AM
