/- An operation with its tests; what a call says. -/
import Derived.Test.YtnjmjiajbgdnlaaA14
set_option linter.all false
namespace Go.AM
open Go Go.RowKit

/-- The blocks of the own memory. -/
def Own (pl : Pl) (bx : List Ent) (b : Nat) : Prop := ∃ k e, bx[k]? = some e ∧ entBlk pl k e = some b

/-- Called with these data over this own memory, the function hands back that datum, over that one; else nothing has turned. -/
def SpM (P : Program) (gt : Nat → Option (List D)) : CallP := fun f ds bx d bx' => okFn P f ∧ ∀ (K : Kn) (pl : Pl) (w : World) (vs : Array Value), (∀ b o, K b = some o → w.heap[b]? = some o) → GlobOk gt K → Tab K pl w bx → RepL K pl ds vs.toList →
  Calls P f vs w fun e w' => ∃ v K' pl', e = .returned v ∧ Inv ⟨Own pl bx, w, K, bx.length, pl, gt⟩ K' pl' bx' w' ∧ Rep K' pl' d v

/-- .. without own memory. -/
def Sp (P : Program) (gt : Nat → Option (List D)) (f : Nat) (ds : List D) (d : D) : Prop := SpM P gt f ds [] d []

theorem Inv.then {F : Fr} {K K' : Kn} {pl pl' : Pl} {bx bx' : List Ent} {w w' : World} (h : Inv F K pl bx w) (h' : Inv ⟨Own pl bx, w, K, bx.length, pl, F.gt⟩ K' pl' bx' w') : KLe K K' ∧ PLe pl pl' ∧ Inv F K' pl' bx' w' := by
  have hsz := h.chg.size
  have hown : ∀ b, Own pl bx b → F.S b ∨ F.w.heap.size ≤ b := fun b ⟨k, e, hk, hb⟩ => h.own k e b hk hb
  have hp : PLe pl pl' := fun k ver x hx => by
    by_cases hlt : k < bx.length
    · exact h'.keep k ver x hlt hx
    · rw [h.tab.free k ver (by omega)] at hx; cases hx
  refine ⟨h'.le, hp, h.chg.trans h'.chg fun b hb hs => ?_, h'.mod, h.le.trans h'.le, fun b o hb => ?_, h'.tab, fun k e b hk hb => ?_, Nat.le_trans h.len h'.len, fun k ver x hk hx => hp _ _ _ (h.keep k ver x hk hx), h'.glob⟩
  · rcases hown b hs with h1 | h1
    · exact h1
    · omega
  · rcases h'.new b o hb with h1 | h1 | h1
    · exact h.new b o h1
    · exact .inr (hown b h1)
    · exact .inr (.inr (Nat.le_trans hsz h1))
  · rcases h'.own k e b hk hb with h1 | h1
    · exact hown b h1
    · exact .inr (Nat.le_trans hsz h1)

def OpOk (P : Program) (gt : Nat → Option (List D)) (nt : Nat) (ops : Array Oper) (i : Nat) (o' : O) (g : G) (env : Env) (bx : List Ent) (d : D) (bx' : List Ent) : Prop :=
  ∀ (F : Fr) (K : Kn) (pl : Pl) (w : World) (a : Act), F.gt = gt → Inv F K pl bx w → a.tmps.size = nt → (∀ s ∈ msl o'.m ++ gsl g, SlotOk K pl env a s) → ∀ (next : Act → World → Prop) (Q : Exit → Act → World → Prop),
    (∀ v w' K' pl', KLe K K' → PLe pl pl' → Inv F K' pl' bx' w' → (holds a g → Rep K' pl' d v) → (¬ holds a g → v = undef) → next (a.put o'.dst v) w') → wpOp P ops Q i next a w

theorem compO_spec {P : Program} {nt : Nat} {ops : Array Oper} {o : Oper} {o' : O} (h : compO P nt ops o = some o'.bare) : compM P o.type o.op = some o'.m.bare ∧ o'.dst = o.dst ∧ (∀ d, o.dst = some d → d < nt) ∧
    (match o.guard with | none => o'.g = none | some (j, pol) => ∃ s, (ops[j]?).bind (·.dst) = some s ∧ o'.g = some (s, pol)) := by
  obtain ⟨od, og, om⟩ := o'
  unfold compO at h
  split at h
  · rename_i m g hm hok hg
    simp only [O.bare, Option.some.injEq, O.mk.injEq] at h
    obtain ⟨rfl, rfl, rfl, _⟩ := h
    refine ⟨hm, rfl, fun d hd => ?_, ?_⟩
    · rw [hd] at hok; simpa [okDst] using hok
    · cases ho : o.guard with
      | none => rw [ho] at hg; simp [compG] at hg; exact hg.symm
      | some jp =>
        obtain ⟨j, pol⟩ := jp
        rw [ho] at hg
        simp only [compG] at hg
        split at hg
        · rename_i s hs; cases hg; exact ⟨s, hs, rfl⟩
        · cases hg
  · cases h

theorem binI_bx {op : BinOp} {k : IntKind} {x y : Int} {bx : List Ent} {p : List Prop} {d : D} {bx' : List Ent} (h : binI op k x y bx = .ok p d bx') : bx' = bx := by
  cases op <;> simp [binI] at h <;> exact h.2.2.symm

def isCall : M → Bool
  | .call .. | .callv .. => true
  | _ => false

section
variable {gt : Nat → Option (List D)} {m : M} {g : G} {env : Env} {bx : List Ent}

/-- Only what writes changes the own memory. -/
theorem stepF_bx {p : List Prop} {d : D} {bx' : List Ent} (h : stepF gt m g env bx = .ok p d bx') : bx' = bx ∨ (g = [] ∧ isEff m = true) := by
  cases m <;> simp only [stepF] at h
  case mv fz x =>
    split at h
    · simp at h; exact .inl h.2.2.symm
    · right; simp [isEff]
    · cases h
  case pick c a b =>
    cases c with
    | c => simp at h
    | t s =>
      simp only [stepPick] at h
      split at h
      · split at h <;> simp at h; exact .inl h.2.2.symm
      · split at h <;> simp at h; exact .inl h.2.2.symm
      · cases h
  case alloc => split at h <;> simp_all [isEff]
  case box => split at h <;> simp_all [isEff]
  case ld n x =>
    left
    cases hx : evX env g x with
    | none => simp [hx, stepLd] at h
    | some d0 =>
      rw [hx] at h
      cases d0 <;> simp only [stepLd] at h <;> try (cases h; done)
      all_goals (split at h <;> first | (cases h; done) | (split at h <;> simp at h; exact h.2.2.symm))
  case st => split at h <;> simp_all [isEff]
  case fld => split at h <;> simp at h <;> exact .inl h.2.2.symm
  case ixs sz x i =>
    left
    cases hx : evX env g x with
    | none => simp [hx, stepIxs] at h
    | some d0 =>
      cases hy : evX env g i with
      | none => rw [hx, hy] at h; cases d0 <;> simp [stepIxs] at h
      | some d1 =>
        rw [hx, hy] at h
        cases d0 <;> try (simp [stepIxs] at h; done)
        all_goals (cases d1 <;> simp only [stepIxs] at h <;> first | (cases h; done) | (simp at h; exact h.2.2.symm) | (split at h <;> simp at h; exact h.2.2.symm))
  case ixa len sz x i =>
    left
    cases hx : evX env g x with
    | none => simp [hx, stepIxa] at h
    | some d0 =>
      cases hy : evX env g i with
      | none => rw [hx, hy] at h; cases d0 <;> simp [stepIxa] at h
      | some d1 =>
        rw [hx, hy] at h
        cases d0 <;> try (simp [stepIxa] at h; done)
        all_goals (cases d1 <;> simp [stepIxa] at h; exact h.2.2.symm)
  case part => split at h <;> try (cases h; done)
               split at h <;> simp at h; exact .inl h.2.2.symm
  case ixv => split at h <;> cases h
  case sidx => split at h <;> simp at h; exact .inl h.2.2.symm
  case bld => split at h <;> try (cases h; done)
              split at h <;> simp at h; exact .inl h.2.2.symm
  case bsl =>
    split at h
    · split at h <;> simp at h; exact .inl h.2.2.symm
    · right; simp [isEff]
    · right; simp [isEff]
    · cases h
  case bin => split at h <;> try (cases h; done)
              split at h <;> try (cases h; done)
              · exact .inl (binI_bx h)
              · exact .inl (binI_bx h)
  case cat => split at h <;> simp at h; exact .inl h.2.2.symm
  case eqb => split at h <;> simp at h <;> exact .inl h.2.2.symm
  case eqS => split at h <;> try (cases h; done)
              split at h <;> simp at h; exact .inl h.2.2.symm
  case not => split at h <;> simp at h; exact .inl h.2.2.symm
  case neg => split at h <;> try (cases h; done)
              split at h <;> simp at h; exact .inl h.2.2.symm
  case conv => split at h <;> simp at h; exact .inl h.2.2.symm
  case b2s => split at h <;> first | (cases h; done) | (split at h <;> cases h)
  case len str x =>
    left
    cases hx : evX env g x with
    | none => simp [hx, stepLen] at h
    | some d0 =>
      rw [hx] at h
      cases d0 <;> cases str <;> simp only [stepLen] at h <;> first | (cases h; done) | (simp at h; exact h.2.2.symm) | (split at h <;> simp at h; exact h.2.2.symm)
  case mx => split at h <;> simp at h; exact .inl h.2.2.symm
  case mn => split at h <;> simp at h; exact .inl h.2.2.symm
  case call => split at h <;> cases h
  case callv => split at h <;> cases h
  case clo => split at h <;> simp at h; exact .inl h.2.2.symm
  case nilS => split at h <;> simp_all [isEff]
  case mks =>
    right
    split at h
    · simp [isEff]
    · cases h
  case app => split at h <;> simp_all [isEff]
  case cpy => split at h <;> simp_all [isEff]
  case sls eff sz x lo hi =>
    cases hx : evX env g x with
    | none => simp [hx, stepSls] at h
    | some d0 =>
      rw [hx] at h
      cases d0 <;> simp only [stepSls] at h <;> try (cases h; done)
      · split at h <;> simp at h; exact .inl h.2.2.symm
      · split at h <;> simp at h; exact .inl h.2.2.symm
      · split at h
        · right; simp [isEff]
        · cases h
  case sst x lo hi =>
    left
    cases hx : evX env g x with
    | none => simp [hx, stepSst] at h
    | some d0 =>
      rw [hx] at h
      cases d0 <;> simp only [stepSst] at h <;> first | (cases h; done) | (split at h <;> simp at h; exact h.2.2.symm)
  case sla len sz x lo hi =>
    left
    cases hx : evX env g x with
    | none => simp [hx, stepSla] at h
    | some d0 =>
      rw [hx] at h
      cases d0 <;> simp only [stepSla] at h <;> first | (cases h; done) | (split at h <;> simp at h; exact h.2.2.symm)
  case ext => split at h <;> try (cases h; done)
              split at h <;> simp at h; exact .inl h.2.2.symm
  case chk => split at h <;> try (cases h; done)
              split at h <;> simp at h; exact .inl h.2.2.symm

theorem stepF_call {p : List Prop} {eff : Bool} {f : Nat} {ds : List D} (h : stepF gt m g env bx = .call p eff f ds) : eff = true → g = [] ∧ isEff m = true := by
  cases m <;> simp only [stepF] at h
  case call =>
    split at h <;> simp at h
    · intro e; rw [h.2.1] at e; cases e
    · intro _; simp [isEff]
  case callv =>
    split at h <;> simp at h
    · intro e; rw [h.2.1] at e; cases e
    · intro _; simp [isEff]
  case pick c a b => cases c <;> simp only [stepPick] at h <;> (repeat' (split at h)) <;> cases h
  case ld n x => cases hx : evX env g x with
    | none => simp [hx, stepLd] at h
    | some d0 => rw [hx] at h; cases d0 <;> simp only [stepLd] at h <;> (repeat' (split at h)) <;> cases h
  case st n x y => split at h <;> first | (cases h; done) | skip
                   cases hx : evX env [] x with
                   | none => rw [hx] at h; simp [stepSt] at h
                   | some d0 => cases hy : evX env [] y with
                     | none => rw [hx, hy] at h; cases d0 <;> simp [stepSt] at h
                     | some d1 => rw [hx, hy] at h; cases d0 <;> simp only [stepSt] at h <;> (repeat' (split at h)) <;> cases h
  case ixs sz x y => cases hx : evX env g x with
                   | none => rw [hx] at h; simp [stepIxs] at h
                   | some d0 => cases hy : evX env g y with
                     | none => rw [hx, hy] at h; cases d0 <;> simp [stepIxs] at h
                     | some d1 => rw [hx, hy] at h; cases d0 <;> cases d1 <;> simp only [stepIxs] at h <;> (repeat' (split at h)) <;> cases h
  case ixa n sz x y => cases hx : evX env g x with
                   | none => rw [hx] at h; simp [stepIxa] at h
                   | some d0 => cases hy : evX env g y with
                     | none => rw [hx, hy] at h; cases d0 <;> simp [stepIxa] at h
                     | some d1 => rw [hx, hy] at h; cases d0 <;> cases d1 <;> simp only [stepIxa] at h <;> (repeat' (split at h)) <;> cases h
  case bin op k x y =>
    have hb : ∀ k a b, binI op k a b bx ≠ .call p eff f ds := fun k a b => by cases op <;> simp [binI]
    (repeat' (split at h)) <;> first | exact absurd h (hb _ _ _) | cases h
  case len str x => cases hx : evX env g x with
    | none => rw [hx] at h; cases str <;> simp [stepLen] at h
    | some d0 => rw [hx] at h; cases d0 <;> cases str <;> simp only [stepLen] at h <;> (repeat' (split at h)) <;> cases h
  case app e sz n x y => split at h <;> first | (cases h; done) | skip
                         cases hx : evX env [] x with
                         | none => rw [hx] at h; simp [stepApp] at h
                         | some d0 => cases hy : evX env [] y with
                           | none => rw [hx, hy] at h; cases d0 <;> simp [stepApp] at h
                           | some d1 => rw [hx, hy] at h; cases d0 <;> cases d1 <;> simp only [stepApp] at h <;> (repeat' (split at h)) <;> cases h
  case cpy e sz x y => split at h <;> first | (cases h; done) | skip
                       cases hx : evX env [] x with
                       | none => rw [hx] at h; simp [stepCpy] at h
                       | some d0 => cases hy : evX env [] y with
                         | none => rw [hx, hy] at h; cases d0 <;> simp [stepCpy] at h
                         | some d1 => rw [hx, hy] at h; cases d0 <;> cases d1 <;> simp only [stepCpy] at h <;> (repeat' (split at h)) <;> cases h
  case sls eff sz x lo hi => cases hx : evX env g x with
    | none => rw [hx] at h; simp [stepSls] at h
    | some d0 => rw [hx] at h; cases d0 <;> simp only [stepSls] at h <;> (repeat' (split at h)) <;> cases h
  case sst x lo hi => cases hx : evX env g x with
    | none => rw [hx] at h; simp [stepSst] at h
    | some d0 => rw [hx] at h; cases d0 <;> simp only [stepSst] at h <;> (repeat' (split at h)) <;> cases h
  case sla n sz x lo hi => cases hx : evX env g x with
    | none => rw [hx] at h; simp [stepSla] at h
    | some d0 => rw [hx] at h; cases d0 <;> simp only [stepSla] at h <;> (repeat' (split at h)) <;> cases h
  case box isA x =>
    (repeat' (split at h)) <;> first | (cases h; done) | (rename_i dd _; cases ho : isOne dd <;> simp [ho] at h)
  all_goals ((repeat' (split at h)) <;> cases h)

theorem stepF_put {p : List Prop} {Q : List D → Prop} {d : D} {mk : List D → List Ent} (h : stepF gt m g env bx = .put p Q d mk) : g = [] ∧ isEff m = true := by
  cases m <;> simp only [stepF] at h
  case st n x y => split at h <;> first | (cases h; done) | exact ⟨rfl, rfl⟩
  case pick c a b => cases c <;> simp only [stepPick] at h <;> (repeat' (split at h)) <;> cases h
  case ld n x => cases hx : evX env g x with
    | none => simp [hx, stepLd] at h
    | some d0 => rw [hx] at h; cases d0 <;> simp only [stepLd] at h <;> (repeat' (split at h)) <;> cases h
  case ixs sz x y => cases hx : evX env g x with
                   | none => rw [hx] at h; simp [stepIxs] at h
                   | some d0 => cases hy : evX env g y with
                     | none => rw [hx, hy] at h; cases d0 <;> simp [stepIxs] at h
                     | some d1 => rw [hx, hy] at h; cases d0 <;> cases d1 <;> simp only [stepIxs] at h <;> (repeat' (split at h)) <;> cases h
  case ixa n sz x y => cases hx : evX env g x with
                   | none => rw [hx] at h; simp [stepIxa] at h
                   | some d0 => cases hy : evX env g y with
                     | none => rw [hx, hy] at h; cases d0 <;> simp [stepIxa] at h
                     | some d1 => rw [hx, hy] at h; cases d0 <;> cases d1 <;> simp only [stepIxa] at h <;> (repeat' (split at h)) <;> cases h
  case bin op k x y =>
    have hb : ∀ k a b, binI op k a b bx ≠ .put p Q d mk := fun k a b => by cases op <;> simp [binI]
    (repeat' (split at h)) <;> first | exact absurd h (hb _ _ _) | cases h
  case len str x => cases hx : evX env g x with
    | none => rw [hx] at h; cases str <;> simp [stepLen] at h
    | some d0 => rw [hx] at h; cases d0 <;> cases str <;> simp only [stepLen] at h <;> (repeat' (split at h)) <;> cases h
  case app e sz n x y => split at h <;> first | (cases h; done) | exact ⟨rfl, rfl⟩
  case cpy e sz x y => split at h <;> first | (cases h; done) | exact ⟨rfl, rfl⟩
  case sls eff sz x lo hi => cases hx : evX env g x with
    | none => rw [hx] at h; simp [stepSls] at h
    | some d0 => rw [hx] at h; cases d0 <;> simp only [stepSls] at h <;> (repeat' (split at h)) <;> cases h
  case sst x lo hi => cases hx : evX env g x with
    | none => rw [hx] at h; simp [stepSst] at h
    | some d0 => rw [hx] at h; cases d0 <;> simp only [stepSst] at h <;> (repeat' (split at h)) <;> cases h
  case sla n sz x lo hi => cases hx : evX env g x with
    | none => rw [hx] at h; simp [stepSla] at h
    | some d0 => rw [hx] at h; cases d0 <;> simp only [stepSla] at h <;> (repeat' (split at h)) <;> cases h
  case box isA x =>
    (repeat' (split at h)) <;> first | (cases h; done) | (rename_i dd _; cases ho : isOne dd <;> simp [ho] at h)
  all_goals ((repeat' (split at h)) <;> cases h)
theorem stepF_callM {p : List Prop} {eff : Bool} {f : Nat} {ds : List D} (h : stepF gt m g env bx = .call p eff f ds) : isCall m = true := by
  cases m <;> simp only [stepF] at h
  case call => rfl
  case callv => rfl
  case pick c a b => cases c <;> simp only [stepPick] at h <;> (repeat' (split at h)) <;> cases h
  case ld n x => cases hx : evX env g x with
    | none => simp [hx, stepLd] at h
    | some d0 => rw [hx] at h; cases d0 <;> simp only [stepLd] at h <;> (repeat' (split at h)) <;> cases h
  case st n x y => split at h <;> first | (cases h; done) | skip
                   cases hx : evX env [] x with
                   | none => rw [hx] at h; simp [stepSt] at h
                   | some d0 => cases hy : evX env [] y with
                     | none => rw [hx, hy] at h; cases d0 <;> simp [stepSt] at h
                     | some d1 => rw [hx, hy] at h; cases d0 <;> simp only [stepSt] at h <;> (repeat' (split at h)) <;> cases h
  case ixs sz x y => cases hx : evX env g x with
                   | none => rw [hx] at h; simp [stepIxs] at h
                   | some d0 => cases hy : evX env g y with
                     | none => rw [hx, hy] at h; cases d0 <;> simp [stepIxs] at h
                     | some d1 => rw [hx, hy] at h; cases d0 <;> cases d1 <;> simp only [stepIxs] at h <;> (repeat' (split at h)) <;> cases h
  case ixa n sz x y => cases hx : evX env g x with
                   | none => rw [hx] at h; simp [stepIxa] at h
                   | some d0 => cases hy : evX env g y with
                     | none => rw [hx, hy] at h; cases d0 <;> simp [stepIxa] at h
                     | some d1 => rw [hx, hy] at h; cases d0 <;> cases d1 <;> simp only [stepIxa] at h <;> (repeat' (split at h)) <;> cases h
  case bin op k x y =>
    have hb : ∀ k a b, binI op k a b bx ≠ .call p eff f ds := fun k a b => by cases op <;> simp [binI]
    (repeat' (split at h)) <;> first | exact absurd h (hb _ _ _) | cases h
  case len str x => cases hx : evX env g x with
    | none => rw [hx] at h; cases str <;> simp [stepLen] at h
    | some d0 => rw [hx] at h; cases d0 <;> cases str <;> simp only [stepLen] at h <;> (repeat' (split at h)) <;> cases h
  case app e sz n x y => split at h <;> first | (cases h; done) | skip
                         cases hx : evX env [] x with
                         | none => rw [hx] at h; simp [stepApp] at h
                         | some d0 => cases hy : evX env [] y with
                           | none => rw [hx, hy] at h; cases d0 <;> simp [stepApp] at h
                           | some d1 => rw [hx, hy] at h; cases d0 <;> cases d1 <;> simp only [stepApp] at h <;> (repeat' (split at h)) <;> cases h
  case cpy e sz x y => split at h <;> first | (cases h; done) | skip
                       cases hx : evX env [] x with
                       | none => rw [hx] at h; simp [stepCpy] at h
                       | some d0 => cases hy : evX env [] y with
                         | none => rw [hx, hy] at h; cases d0 <;> simp [stepCpy] at h
                         | some d1 => rw [hx, hy] at h; cases d0 <;> cases d1 <;> simp only [stepCpy] at h <;> (repeat' (split at h)) <;> cases h
  case sls eff sz x lo hi => cases hx : evX env g x with
    | none => rw [hx] at h; simp [stepSls] at h
    | some d0 => rw [hx] at h; cases d0 <;> simp only [stepSls] at h <;> (repeat' (split at h)) <;> cases h
  case sst x lo hi => cases hx : evX env g x with
    | none => rw [hx] at h; simp [stepSst] at h
    | some d0 => rw [hx] at h; cases d0 <;> simp only [stepSst] at h <;> (repeat' (split at h)) <;> cases h
  case sla n sz x lo hi => cases hx : evX env g x with
    | none => rw [hx] at h; simp [stepSla] at h
    | some d0 => rw [hx] at h; cases d0 <;> simp only [stepSla] at h <;> (repeat' (split at h)) <;> cases h
  case box isA x =>
    (repeat' (split at h)) <;> first | (cases h; done) | (rename_i dd _; cases ho : isOne dd <;> simp [ho] at h)
  all_goals ((repeat' (split at h)) <;> cases h)


theorem looks_noneff {o : O} {l : List Nat} (h : looks o = some l) : isEff o.m = false ∧ isCall o.m = false := by
  obtain ⟨dst, og, m, fp⟩ := o
  cases m <;> simp only [looks, pureM] at h <;> first | (cases h; done) | exact ⟨rfl, rfl⟩ | skip
  case mv fz x => cases fz <;> simp at h; exact ⟨rfl, rfl⟩
  case bsl mode e sz n xs => cases mode <;> simp at h; exact ⟨rfl, rfl⟩

def Res.at (bx : List Ent) : Res → Res
  | .ok p d _ => .ok p d bx
  | r => r
/-- The same, of these entities. -/
def Agr (l : List Nat) (bx bx2 : List Ent) : Prop := ∀ k ∈ l, entN bx k = entN bx2 k
theorem allN_iff {l r : List Nat} : allN l r = true ↔ ∀ x ∈ l, x ∈ r := by
  have hm : ∀ {r : List Nat} {x : Nat}, memN r x = true ↔ x ∈ r := by
    intro r x
    induction r with
    | nil => simp [memN]
    | cons y r ih => simp only [memN, bO_iff, ih, List.mem_cons, beq_iff_eq]; constructor <;> (rintro (h | h); exact .inl h.symm; exact .inr h)
  induction l with
  | nil => simp [allN]
  | cons x l ih => simp only [allN, bA_iff, hm, ih]; simp

theorem stepF_pure (h : pureM m = true) (bx2 : List Ent) : stepF gt m g env bx2 = (stepF gt m g env bx).at bx2 := by
  cases m <;> simp only [pureM] at h <;> first | (cases h; done) | skip
  case mv fz x => cases fz <;> first | (cases h; done) | skip
                  simp only [stepF]; generalize evX env g x = a; cases a <;> rfl
  case pick c a b =>
    cases c with
    | c => rfl
    | t s =>
      simp only [stepF]
      unfold stepPick
      split <;> first | rfl | (split <;> rfl)
  case fld off x => simp only [stepF]; generalize evX env g x = a; rcases a with _ | d <;> first | rfl | (cases d <;> rfl)
  case ixa len sz x i =>
    simp only [stepF]; generalize evX env g x = a; generalize evX env g i = b
    rcases a with _ | d <;> first | rfl | (cases d <;> first | rfl | (rcases b with _ | e <;> first | rfl | (cases e <;> rfl)))
  case part off n x =>
    simp only [stepF]; generalize evX env g x = a
    rcases a with _ | d <;> first | rfl | (cases d <;> first | rfl | skip)
    rename_i l; simp only; cases partD l off n <;> rfl
  case ixv len sz n x i =>
    simp only [stepF]; generalize evX env g x = a; generalize evX env g i = b
    rcases a with _ | d <;> first | rfl | (cases d <;> first | rfl | (rcases b with _ | e <;> first | rfl | (cases e <;> rfl)))
  case sidx x i =>
    simp only [stepF]; generalize evX env g x = a; generalize evX env g i = b
    rcases a with _ | d <;> first | rfl | (cases d <;> first | rfl | (rcases b with _ | e <;> first | rfl | (cases e <;> rfl)))
  case bld z parts =>
    simp only [stepF]; generalize evL env g (thirds parts) = a
    rcases a with _ | ds <;> first | rfl | skip
    simp only; cases fillD z parts ds <;> rfl
  case bsl mode e sz n xs =>
    cases mode <;> first | (cases h; done) | skip
    simp only [stepF]; generalize evL env g xs = a
    rcases a with _ | ds <;> first | rfl | skip
    simp only; cases bA (closedL ds) (rowsOf n ds) <;> rfl
  case bin op k x y =>
    simp only [stepF]; generalize evX env g x = a; generalize evX env g y = b
    rcases a with _ | d <;> first | rfl | (cases d <;> first | rfl | (rcases b with _ | e <;> first | rfl | (cases e <;> first | rfl | skip)))
    rename_i k1 n1 k2 n2
    simp only; cases kEq k k1 <;> cases kEq k k2 <;> cases isShr op <;> first | rfl | (cases op <;> rfl)
  case cat x y =>
    simp only [stepF]; generalize evX env g x = a; generalize evX env g y = b
    rcases a with _ | d <;> first | rfl | (cases d <;> first | rfl | (rcases b with _ | e <;> first | rfl | (cases e <;> rfl)))
  case eqb neg str x y =>
    simp only [stepF]; generalize evX env g x = a; generalize evX env g y = b
    cases str <;> (rcases a with _ | d <;> first | rfl | (cases d <;> first | rfl | (rcases b with _ | e <;> first | rfl | (cases e <;> rfl))))
  case eqS neg ks x y =>
    simp only [stepF]; generalize evX env g x = a; generalize evX env g y = b
    rcases a with _ | d <;> first | rfl | (cases d <;> first | rfl | (rcases b with _ | e <;> first | rfl | (cases e <;> first | rfl | skip)))
    rename_i l1 l2; simp only; cases eqCs ks l1 l2 <;> rfl
  case not x => simp only [stepF]; generalize evX env g x = a; rcases a with _ | d <;> first | rfl | (cases d <;> rfl)
  case neg k x => simp only [stepF]; generalize evX env g x = a; rcases a with _ | d <;> first | rfl | (cases d <;> first | rfl | skip)
                  rename_i k1 n; simp only; cases kEq k k1 <;> rfl
  case conv k x => simp only [stepF]; generalize evX env g x = a; rcases a with _ | d <;> first | rfl | (cases d <;> rfl)
  case mx x y =>
    simp only [stepF]; generalize evX env g x = a; generalize evX env g y = b
    rcases a with _ | d <;> first | rfl | (cases d <;> first | rfl | (rcases b with _ | e <;> first | rfl | (cases e <;> rfl)))
  case mn x y =>
    simp only [stepF]; generalize evX env g x = a; generalize evX env g y = b
    rcases a with _ | d <;> first | rfl | (cases d <;> first | rfl | (rcases b with _ | e <;> first | rfl | (cases e <;> rfl)))
  case clo f xs => simp only [stepF]; generalize evL env g xs = a; cases a <;> rfl
  case sst x lo hi =>
    simp only [stepF]; generalize evX env g x = a; generalize evB env g 0 lo = b
    rcases a with _ | d <;> first | rfl | (cases d <;> first | rfl | skip)
    rename_i s; simp only [stepSst]; generalize evB env g _ hi = c; cases b <;> cases c <;> rfl
  case sla len sz x lo hi =>
    simp only [stepF]; generalize evX env g x = a; generalize evB env g 0 lo = b; generalize evB env g len hi = c
    rcases a with _ | d <;> first | rfl | (cases d <;> first | rfl | (cases b <;> cases c <;> rfl))
  case ext x i =>
    simp only [stepF]; generalize evX env g x = a
    rcases a with _ | d <;> first | rfl | (cases d <;> first | rfl | skip)
    rename_i l; simp only; cases nth l i <;> rfl
  case chk x =>
    simp only [stepF]; generalize evX env g x = a
    rcases a with _ | d <;> first | rfl | skip
    simp only; cases isPtr d <;> rfl

/-- What looks at some entities alone comes to the same where these are the same. -/
theorem stepF_look {o : O} {l : List Nat} (h : looks o = some l) (hf : fpOk o.fp o.m g env = true) {bx2 : List Ent} (ha : Agr l bx bx2) : stepF gt o.m g env bx2 = (stepF gt o.m g env bx).at bx2 := by
  cases hp : pureM o.m with
  | true => exact stepF_pure hp bx2
  | false =>
    obtain ⟨dst, og, m, fp⟩ := o
    simp only [looks, hp] at h
    cases m <;> first | (cases h; done) | skip
    case ld n x =>
      simp only at h
      subst h
      simp only [fpOk, foot] at hf
      simp only [stepF]
      generalize evX env g x = a at *
      rcases a with _ | d <;> first | rfl | skip
      cases d <;> first | rfl | skip
      case box k off =>
        have := ha k (allN_iff.1 hf k (by simp))
        simp only [stepLd, ← this]
        split <;> first | rfl | (split <;> rfl)
      case boxi k off =>
        have := ha k (allN_iff.1 hf k (by simp))
        simp only [stepLd, ← this]
        split <;> rfl
      case glob k off => simp only [stepLd]; split <;> rfl
      case elo k v s i off =>
        have := ha k (allN_iff.1 hf k (by simp))
        simp only [stepLd, ← this]
        split <;> rfl
    case ixs sz x i =>
      simp only at h
      subst h
      simp only [fpOk, foot] at hf
      simp only [stepF]
      generalize evX env g x = a at *
      generalize evX env g i = b at *
      rcases a with _ | d <;> first | rfl | skip
      cases d <;> first | rfl | (rcases b with _ | e <;> first | rfl | (cases e <;> first | rfl | skip))
      rename_i k ver k2 n2
      have := ha k (allN_iff.1 hf k (by simp))
      simp only [stepIxs, ← this]
      split <;> rfl
    case len str x =>
      simp only at h
      subst h
      simp only [fpOk, foot] at hf
      simp only [stepF]
      generalize evX env g x = a at *
      rcases a with _ | d <;> cases str <;> first | rfl | skip
      · cases d <;> first | rfl | skip
        rename_i k ver
        have := ha k (allN_iff.1 hf k (by simp))
        simp only [stepLen, ← this]
        split <;> rfl
      · cases d <;> rfl
end
end Go.AM
