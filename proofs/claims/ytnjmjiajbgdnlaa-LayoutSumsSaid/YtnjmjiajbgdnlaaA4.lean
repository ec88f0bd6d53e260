/- The own memory, the slots, the tests. -/
import Derived.Test.YtnjmjiajbgdnlaaA3
set_option linter.all false
namespace Go.AM
open Go Go.RowKit

def blkV : Value → Option Nat
  | .pointer (some a) => some a.block
  | .slice (some a) _ _ => some a.block
  | .map (some r) => some r
  | _ => none

def EntOk (K : Kn) (pl : Pl) (w : World) (k : Nat) : Ent → Prop
  | .cells l => ∃ b T, ∃ cs : List Value, pl k 0 = some (.pointer (some ⟨b, 0, none⟩)) ∧ K b = none ∧ w.heap[b]? = some (.cells cs.toArray T (0, 0)) ∧ RepL K pl l cs ∧ ∀ c ∈ cs, c.oneCell' = true
  | .arr e sz ver rows => ∃ v vs, pl k ver = some v ∧ w.ownsRow 0 e sz v rows.length (flat vs) ∧ RepL K pl0 rows vs ∧ sized sz vs ∧ (∀ b, v.ownBlock = some b → K b = none) ∧ (∀ ver', ver < ver' → pl k ver' = none)
  | .gone => True

def entBlk (pl : Pl) (k : Nat) : Ent → Option Nat
  | .cells _ => (pl k 0).bind blkV
  | .arr _ _ ver _ => (pl k ver).bind blkV
  | .gone => none

structure Tab (K : Kn) (pl : Pl) (w : World) (bx : List Ent) : Prop where
  ok : ∀ k e, bx[k]? = some e → EntOk K pl w k e
  sep : ∀ i j e f b, i ≠ j → bx[i]? = some e → bx[j]? = some f → entBlk pl i e = some b → entBlk pl j f ≠ some b
  free : ∀ k ver, bx.length ≤ k → pl k ver = none

/-- Nothing has turned but some blocks, and new ones. -/
structure Chg (S : Nat → Prop) (w w' : World) : Prop where
  os : w'.os = w.os
  tape : w'.tape = w.tape
  output : w'.output = w.output
  size : w.heap.size ≤ w'.heap.size
  block : ∀ k, k < w.heap.size → ¬ S k → w'.heap[k]? = w.heap[k]?

theorem Chg.refl (S : Nat → Prop) (w : World) : Chg S w w := ⟨rfl, rfl, rfl, Nat.le_refl _, fun _ _ _ => rfl⟩
theorem Chg.trans {S S' : Nat → Prop} {a b c : World} (h : Chg S a b) (h' : Chg S' b c) (hS : ∀ k, k < a.heap.size → S' k → S k) : Chg S a c :=
  ⟨h'.os.trans h.os, h'.tape.trans h.tape, h'.output.trans h.output, Nat.le_trans h.size h'.size,
    fun k hk hn => (h'.block k (Nat.lt_of_lt_of_le hk h.size) (fun hs => hn (hS k hk hs))).trans (h.block k hk hn)⟩
theorem Chg.grown {S : Nat → Prop} {a w w' : World} {row : Option Nat} (h : Chg S a w) (hg : w.grownBy w' row) (hr : ∀ k, row = some k → S k ∨ a.heap.size ≤ k) : Chg S a w' :=
  h.trans (S' := fun k => row = some k) ⟨hg.os, hg.tape, hg.output, hg.size, fun k hk hn => hg.block k hk (fun e => hn e.symm)⟩ fun k hk hs => by
    rcases hr k hs with h | h
    · exact h
    · omega

def GlobOk (gt : Nat → Option (List D)) (K : Kn) : Prop := ∀ g l, gt g = some l → ∃ cs T fz, K g = some (.cells cs T fz) ∧ RepL K pl0 l cs.toList ∧ ∀ c ∈ cs.toList, c.oneCell' = true

theorem GlobOk.mono {gt : Nat → Option (List D)} {K K' : Kn} (h : GlobOk gt K) (hK : KLe K K') : GlobOk gt K' := fun g l hg => by
  obtain ⟨cs, T, fz, h1, h2, h3⟩ := h g l hg
  exact ⟨cs, T, fz, hK _ _ h1, RepL.mono hK (PLe.refl _) _ _ h2, h3⟩

/-- Where all began. -/
structure Fr where
  S : Nat → Prop
  w : World
  K : Kn
  n0 : Nat
  pl : Pl
  gt : Nat → Option (List D)

structure Inv (F : Fr) (K : Kn) (pl : Pl) (bx : List Ent) (w : World) : Prop where
  chg : Chg F.S F.w w
  mod : ∀ b o, K b = some o → w.heap[b]? = some o
  le : KLe F.K K
  new : ∀ b o, K b = some o → F.K b = some o ∨ F.S b ∨ F.w.heap.size ≤ b
  tab : Tab K pl w bx
  own : ∀ k e b, bx[k]? = some e → entBlk pl k e = some b → F.S b ∨ F.w.heap.size ≤ b
  len : F.n0 ≤ bx.length
  keep : ∀ k ver x, k < F.n0 → F.pl k ver = some x → pl k ver = some x
  glob : GlobOk F.gt K

def holds (a : Act) (g : G) : Prop := ∀ p ∈ g, a.tmps.getD p.1 undef = .bool p.2

theorem holds_nil (a : Act) : holds a [] := fun _ h => by cases h

/-- What is known of a slot. -/
def SlotOk (K : Kn) (pl : Pl) (env : Env) (a : Act) (s : Nat) : Prop :=
  ∀ g d, get env s = some (g, d) → (g = [] ∨ freshG g env s = true) → (holds a g → Rep K pl d (a.tmps.getD s undef)) ∧ (¬ holds a g → a.tmps.getD s undef = undef)

theorem SlotOk.mono {K K' pl pl' env a s} (hK : KLe K K') (hp : PLe pl pl') (h : SlotOk K pl env a s) : SlotOk K' pl' env a s :=
  fun g d hg hf => ⟨fun hh => Rep.mono hK hp _ _ ((h g d hg hf).1 hh), (h g d hg hf).2⟩

theorem bA_iff {a b : Bool} : bA a b = true ↔ a = true ∧ b = true := by cases a <;> cases b <;> simp [bA]
theorem bO_iff {a b : Bool} : bO a b = true ↔ a = true ∨ b = true := by cases a <;> cases b <;> simp [bO]
theorem bN_iff {a : Bool} : bN a = true ↔ a = false := by cases a <;> simp [bN]
theorem bE_iff {a b : Bool} : bE a b = true ↔ a = b := by cases a <;> cases b <;> simp [bE, bN]

theorem memG_mem {s : Nat} {b : Bool} : ∀ {g : G}, memG g s b = true → (s, b) ∈ g
  | [], h => by simp [memG] at h
  | (t, c) :: r, h => by
    simp only [memG, bO_iff, bA_iff, bE_iff, beq_iff_eq] at h
    rcases h with ⟨rfl, rfl⟩ | h
    · simp
    · exact List.mem_cons_of_mem _ (memG_mem h)

theorem subG_holds {a : Act} {g : G} (hg : holds a g) : ∀ {h : G}, subG h g = true → holds a h
  | [], _ => holds_nil a
  | (s, b) :: r, h => by
    simp only [subG, bA_iff] at h
    intro p hp
    rcases List.mem_cons.1 hp with rfl | hp
    · exact hg _ (memG_mem h.1)
    · exact subG_holds hg h.2 p hp

theorem rd_ok {K pl env a g s d} (hs : SlotOk K pl env a s) (hg : holds a g) (h : rd env g s = some d) : Rep K pl d (a.tmps.getD s undef) := by
  unfold rd at h
  split at h
  · cases h
  · rename_i d' hd; cases h
    exact (hs [] _ hd (.inl rfl)).1 (holds_nil a)
  · rename_i x t d' hd
    cases hb : bA (subG (x :: t) g) (freshG (x :: t) env s) with
    | false => simp [hb] at h
    | true =>
      rw [hb] at h
      simp at h; subst h
      rw [bA_iff] at hb
      exact (hs _ _ hd (.inr hb.2)).1 (subG_holds hg hb.1)

theorem rd_nil {env s d} (h : rd env [] s = some d) : get env s = some ([], d) := by
  unfold rd at h
  split at h
  · cases h
  · rename_i d' hd; cases h; exact hd
  · rename_i x t d' hd
    obtain ⟨x1, x2⟩ := x
    simp [subG, memG, bA] at h

/-- The slots of the tests. -/
def gsl (g : G) : List Nat := g.map (·.1)

theorem hyps_ok {K pl env a g0} (hg : holds a g0) : ∀ {g : G}, (∀ p ∈ g, p ∈ g0) → (∀ s ∈ gsl g, SlotOk K pl env a s) → ∀ p ∈ hyps env g0 g, p
  | [], _, _, p, hp => by simp [hyps] at hp
  | (s, pol) :: r, hsub, hs, p, hp => by
    have ih := hyps_ok (K := K) (pl := pl) (env := env) hg (g := r) (fun p hp => hsub p (by simp [hp])) (fun s hs' => hs s (by simp [gsl] at hs' ⊢; exact .inr hs'))
    simp only [hyps] at hp
    split at hp
    · rename_i b hb
      have h1 := rd_ok (hs s (by simp [gsl])) hg hb
      simp only [Rep] at h1
      have h2 := hg _ (hsub (s, pol) (by simp))
      rw [h1] at h2
      rcases List.mem_cons.1 hp with rfl | hp
      · simpa using h2
      · exact ih p hp
    · exact ih p hp

theorem allP_split : ∀ {l : List Prop} {k : Prop}, allP l k → (∀ p ∈ l, p) ∧ k
  | [], _, h => ⟨fun _ h => (by cases h), h⟩
  | p :: l, k, h => by
    obtain ⟨h1, h2⟩ := h
    obtain ⟨h3, h4⟩ := allP_split h2
    refine ⟨fun q hq => ?_, h4⟩
    rcases List.mem_cons.1 hq with rfl | hq
    · exact h1
    · exact h3 q hq

theorem impP_all : ∀ {hs : List Prop} {p : Prop}, impP hs p → (∀ h ∈ hs, h) → p
  | [], _, h, _ => h
  | _ :: hs, _, h, ha => impP_all (hs := hs) (h (ha _ (by simp))) fun q hq => ha q (by simp [hq])

theorem gob_all {hs : List Prop} (ha : ∀ h ∈ hs, h) : ∀ {ps : List Prop}, (∀ p ∈ gob hs ps, p) → ∀ p ∈ ps, p
  | [], _, _, hp => by cases hp
  | q :: ps, h, p, hp => by
    rcases List.mem_cons.1 hp with rfl | hp
    · exact impP_all (h _ (by simp [gob])) ha
    · exact gob_all ha (fun p hp => h p (by simp [gob, hp])) p hp

/-! ### What is written -/
theorem getD_put_self {a : Act} {d : Nat} {v : Value} (h : d < a.tmps.size) : (a.put (some d) v).tmps.getD d undef = v := by
  simp [Act.put, h]
theorem getD_put_ne {a : Act} {d s : Nat} {v : Value} (h : d ≠ s) : (a.put (some d) v).tmps.getD s undef = a.tmps.getD s undef := by
  simp [Act.put, Array.getElem?_setIfInBounds_ne h]
theorem size_put (a : Act) (d : Option Nat) (v : Value) : (a.put d v).tmps.size = a.tmps.size := by cases d <;> simp [Act.put]

theorem notInG_mem {s : Nat} : ∀ {g : G}, notInG g s = true → ∀ p ∈ g, p.1 ≠ s
  | [], _, _, hp => by cases hp
  | (t, c) :: r, h, p, hp => by
    simp only [notInG, bA_iff, bN_iff, beq_eq_false_iff_ne] at h
    rcases List.mem_cons.1 hp with rfl | hp
    · exact h.1
    · exact notInG_mem h.2 p hp

theorem holds_put {a : Act} {g : G} {d : Option Nat} {v : Value} (h : notInO g d = true) : holds (a.put d v) g ↔ holds a g := by
  cases d with
  | none => exact Iff.rfl
  | some d =>
    simp only [notInO] at h
    constructor
    · intro hh p hp
      rw [← hh p hp, getD_put_ne (fun e => notInG_mem h p hp e.symm)]
    · intro hh p hp
      rw [← hh p hp, getD_put_ne (fun e => notInG_mem h p hp e.symm)]

/-- A slot's row behind a write. -/
theorem SlotOk.put {K pl env a s} (hs : SlotOk K pl env a s) {dst : Option Nat} {g : G} {d : D} {v : Value} (hg : notInO g dst = true) (hsz : ∀ t, dst = some t → t < a.tmps.size)
    (h1 : holds a g → Rep K pl d v) (h2 : ¬ holds a g → v = undef) : SlotOk K pl (putE dst g d env) (a.put dst v) s := by
  cases dst with
  | none => exact hs
  | some t =>
    intro g' d' hget hf
    simp only [putE] at hget hf
    by_cases hst : t = s
    · subst hst
      simp [get] at hget
      obtain ⟨rfl, rfl⟩ := hget
      rw [getD_put_self (hsz _ rfl), holds_put hg]
      exact ⟨h1, h2⟩
    · have hne : (t == s) = false := by simpa using hst
      simp only [get, hne, cond_false] at hget
      rw [getD_put_ne hst]
      have hf' : g' = [] ∨ (notInG g' t = true ∧ freshG g' env s = true) := by
        rcases hf with hf | hf
        · exact .inl hf
        · simp only [freshG, hne, cond_false, bA_iff] at hf; exact .inr hf
      rcases hf' with rfl | ⟨h3, h4⟩
      · have := hs [] d' hget (.inl rfl)
        exact ⟨fun _ => this.1 (holds_nil a), fun h => absurd (holds_nil _) h⟩
      · rw [holds_put (d := some t) h3]
        exact hs g' d' hget (.inr h4)

/-! ### Tests -/
theorem yielded_of {ops : Array Oper} {a : Act} {j s : Nat} (hj : (ops[j]?).bind (·.dst) = some s) (pol : Bool) : (yielded ops a.tmps j == some pol) = true ↔ a.tmps.getD s undef = .bool pol := by
  unfold yielded
  rw [hj]
  simp only [Option.bind_some, Array.getD_eq_getD_getElem?]
  cases h : a.tmps[s]? with
  | none => simp [undef]
  | some v => cases v <;> simp

theorem guard_ok {K pl env a} {ops : Array Oper} {o : Oper} {gd : Option (Nat × Bool)} {g : G}
    (hgd : match o.guard with | none => gd = none | some (j, pol) => ∃ s, (ops[j]?).bind (·.dst) = some s ∧ gd = some (s, pol))
    (hg : guardP env gd = some g) (hs : ∀ s ∈ gsl g, SlotOk K pl env a s) : (Region.wanted o (yielded ops a.tmps) = true ↔ holds a g) := by
  unfold Region.wanted
  cases ho : o.guard with
  | none =>
    rw [ho] at hgd; subst hgd
    simp [guardP] at hg; subst hg
    exact ⟨fun _ => holds_nil a, fun _ => rfl⟩
  | some jp =>
    obtain ⟨j, pol⟩ := jp
    rw [ho] at hgd
    obtain ⟨s, hj, rfl⟩ := hgd
    simp only []
    rw [yielded_of hj]
    simp only [guardP] at hg
    split at hg
    · rename_i b hb; cases hg
      constructor
      · intro h p hp; simp at hp; subst hp; exact h
      · intro h; exact h (s, pol) (by simp)
    · rename_i x t b hb
      cases hf : freshG (x :: t) env s with
      | false => simp [hf] at hg
      | true =>
        simp [hf] at hg; subst hg
        have h0 := hs s (by simp [gsl]) _ _ hb (.inr hf)
        constructor
        · intro h p hp
          rcases List.mem_cons.1 hp with rfl | hp
          · exact h
          · by_cases hh : holds a (x :: t)
            · exact hh p hp
            · have := h0.2 hh; rw [h] at this; simp [undef] at this
        · intro h; exact h (s, pol) (by simp)
    · cases hg

/-! ### Operands -/
theorem constD_ok {P : Program} {t : TypeId} {v : Value} {d : D} (h : constD P t v = some d) (K : Kn) (pl : Pl) : Rep K pl d v := by
  unfold constD at h
  split at h
  · cases h; simp [Rep]
  · cases h; simp [Rep]
  · cases h; simp [Rep]
  · split at h
    · cases hz : szOf P ‹_› with
      | none => simp [hz] at h
      | some n => simp [hz] at h; subst h; simp only [Rep]; exact ⟨none, 0, 0, rfl, rfl, Nat.le_refl _, fun _ => rfl, .inl trivial⟩
    · cases h
  · cases h; simp [Rep]
  · cases h; simp [Rep]
  · cases h

theorem ev_ok {P : Program} {t : TypeId} {x : Operand} {x' : X} {K pl env a g d} (hx : opX P t x = some x') (hs : ∀ s ∈ xsl x', SlotOk K pl env a s) (hg : holds a g)
    (he : evX env g x' = some d) : Rep K pl d (a.eval x) := by
  unfold opX at hx
  split at hx
  · cases hx; exact rd_ok (hs _ (by simp [xsl])) hg he
  · rename_i v
    cases hc : constD P t v with
    | none => simp [hc] at hx
    | some d' =>
      simp [hc] at hx; subst hx
      simp [evX] at he; subst he
      exact constD_ok hc K pl
  · cases hx; simp [evX] at he; subst he; simp only [Rep, Act.eval]
  · cases hx; simp [evX] at he; subst he; simp only [Rep, Act.eval]; exact ⟨[], rfl, by simp [RepL]⟩

theorem evs_ok {P : Program} {K pl env a g} (hg : holds a g) : ∀ {xs : List Operand} {ts : List TypeId} {xs' : List X} {ds : List D}, opXs P xs ts = some xs' → (∀ s ∈ xsls xs', SlotOk K pl env a s) →
    evL env g xs' = some ds → RepL K pl ds (xs.map a.eval)
  | [], [], xs', ds, h, _, he => by simp [opXs] at h; subst h; simp [evL] at he; subst he; simp [RepL]
  | x :: xs, t :: ts, xs', ds, h, hs, he => by
    simp only [opXs] at h
    split at h
    · rename_i y ys hy hys
      cases h
      simp only [evL] at he
      split at he
      · rename_i d l hd hl
        cases he
        simp only [List.map_cons, RepL]
        exact ⟨_, _, rfl, ev_ok hy (fun s h' => hs s (by simp [xsls, h'])) hg hd, evs_ok hg hys (fun s h' => hs s (by simp [xsls] at h' ⊢; exact .inr h')) hl⟩
      · cases he
    · cases h
  | [], _ :: _, _, _, h, _, _ => by simp [opXs] at h
  | _ :: _, [], _, _, h, _, _ => by simp [opXs] at h
end Go.AM
