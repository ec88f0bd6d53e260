/- An operation with its tests; what a call says. -/
import Derived.Test.YtkcebadfgiknhaaCore13
set_option linter.all false
namespace Go.AM
open Go Go.RowKit

def New (K K' : Kn) (w : World) : Prop := ∀ b o, K' b = some o → K b = some o ∨ w.heap.size ≤ b

/-- Called with these data, the function hands back this one, and changes nothing that was there. -/
def Sp (P : Program) (f : Nat) (ds : List D) (d : D) : Prop := ∀ (K : Kn) (w : World) (vs : Array Value), (∀ b o, K b = some o → w.heap[b]? = some o) → RepL K pl0 ds vs.toList →
  Calls P f vs w fun e w' => ∃ v K', e = .returned v ∧ KLe K K' ∧ (∀ b o, K' b = some o → w'.heap[b]? = some o) ∧ New K K' w ∧ Rep K' pl0 d v ∧ Below w.heap.size w w'

theorem Sp.conv {P : Program} {f : Nat} {ds ds' : List D} {d d' : D} (h : Sp P f ds d) (h1 : ds = ds') (h2 : d = d') : Sp P f ds' d' := by subst h1; subst h2; exact h

mutual
theorem plain_rep {K K' : Kn} {pl pl' : Pl} : ∀ (d : D) (v : Value), scal d = true → Rep K pl d v → Rep K' pl' d v
  | .int _ _, _, _, h => by simpa [Rep] using h
  | .bool _, _, _, h => by simpa [Rep] using h
  | .str _, _, _, h => by simpa [Rep] using h
  | .ls _ _, _, hc, _ => by simp [scal] at hc
  | .agg l, v, hc, h => by simp [scal] at hc
  | .tup l, v, hc, h => by simp [scal] at hc
  | .box _ _, _, hc, _ => by simp [scal] at hc
  | .own _ _, _, hc, _ => by simp [scal] at hc
  | .el _ _ _ _, _, hc, _ => by simp [scal] at hc
  | .elo _ _ _ _ _, _, hc, _ => by simp [scal] at hc
  | .any, _, hc, _ => by simp [scal] at hc
theorem plainL_rep {K K' : Kn} {pl pl' : Pl} : ∀ (l : List D) (vs : List Value), scalL l = true → RepL K pl l vs → RepL K' pl' l vs
  | [], _, _, h => by simpa [RepL] using h
  | d :: l, vs, hc, h => by
    simp only [RepL] at h ⊢
    obtain ⟨v, r, h1, h2, h3⟩ := h
    simp only [scalL, Bool.and_eq_true] at hc
    exact ⟨v, r, h1, plain_rep d v hc.1 h2, plainL_rep l r hc.2 h3⟩
end

theorem plain_any {K K' : Kn} {pl pl' : Pl} {d : D} {v : Value} (hp : plain d = true) (h : Rep K pl d v) : Rep K' pl' d v := by
  cases d with
  | agg l =>
    simp only [Rep] at h ⊢
    obtain ⟨cs, h1, h2, h3⟩ := h
    exact ⟨cs, h1, plainL_rep l cs (by simpa [plain] using hp) h2, h3⟩
  | tup l =>
    simp only [Rep] at h ⊢
    obtain ⟨cs, h1, h2⟩ := h
    exact ⟨cs, h1, plainL_rep l cs (by simpa [plain] using hp) h2⟩
  | _ => exact plain_rep _ _ (by simpa [plain] using hp) h

/-- Behind a call. -/
theorem Inv.called {B w0 K0 K K' pl bx w w'} (h : Inv B w0 K0 K pl bx w) (hK : KLe K K') (hmod : ∀ b o, K' b = some o → w'.heap[b]? = some o) (hnew : New K K' w) (hb : Below w.heap.size w w') : Inv B w0 K0 K' pl bx w' :=
  ⟨h.below.trans (hb.mono h.base), Nat.le_trans h.base hb.size, hmod, h.le.trans hK, fun b o hbo => by
      rcases hnew b o hbo with h1 | h1
      · exact h.new b o h1
      · exact .inr (Nat.le_trans h.base h1), h.tab.move hK fun b h1 h2 h3 _ => ⟨hb.block b h2, by
      cases hk : K' b with
      | none => rfl
      | some o => rcases hnew b o hk with h4 | h4
                  · rw [h3] at h4; cases h4
                  · omega⟩⟩

def OpOk (P : Program) (nt : Nat) (ops : Array Oper) (i : Nat) (o' : O) (g : G) (env : Env) (bx : List Ent) (d : D) (bx' : List Ent) : Prop :=
  ∀ (B : Nat) (w0 : World) (K0 K : Kn) (pl : Pl) (w : World) (a : Act), Inv B w0 K0 K pl bx w → a.tmps.size = nt → (∀ s ∈ msl o'.m ++ gsl g, SlotOk K pl env a s) → ∀ (next : Act → World → Prop) (Q : Exit → Act → World → Prop),
    (∀ v w' K' pl', KLe K K' → PLe pl pl' → Inv B w0 K0 K' pl' bx' w' → (holds a g → Rep K' pl' d v) → (¬ holds a g → v = undef) → next (a.put o'.dst v) w') → wpOp P ops Q i next a w

theorem compO_spec {P : Program} {nt : Nat} {ops : Array Oper} {o : Oper} {o' : O} (h : compO P nt ops o = some o') : compM P o.type o.op = some o'.m ∧ o'.dst = o.dst ∧ (∀ d, o.dst = some d → d < nt) ∧
    (match o.guard with | none => o'.g = none | some (j, pol) => ∃ s, (ops[j]?).bind (·.dst) = some s ∧ o'.g = some (s, pol)) := by
  unfold compO at h
  split at h
  · rename_i m g hm hok hg
    cases h
    refine ⟨hm, rfl, fun d hd => ?_, ?_⟩
    · rw [hd] at hok; simpa [okDst] using hok
    · cases ho : o.guard with
      | none => rw [ho] at hg; simp [compG] at hg; exact hg.symm
      | some jp =>
        obtain ⟨j, pol⟩ := jp
        rw [ho] at hg
        simp only [compG] at hg
        split at hg
        · rename_i s hs; cases hg; exact ⟨s, hs, rfl⟩
        · cases hg
  · cases h

/-- Only what writes changes the own memory. -/
theorem stepF_bx {m : M} {g : G} {env : Env} {bx : List Ent} {p : List Prop} {d : D} {bx' : List Ent} (h : stepF m g env bx = .ok p d bx') : bx' = bx ∨ (g = [] ∧ isEff m = true) := by
  have hbin : ∀ op k x y, binI op k x y bx = .ok p d bx' → bx' = bx := fun op k x y h => by
    cases op <;> simp [binI] at h <;> exact h.2.2.symm
  cases m <;> simp only [stepF, isEff] at h ⊢
  case mv => split at h <;> simp at h; exact .inl h.2.2.symm
  case pick c a b =>
    cases c with
    | c => simp at h
    | t s =>
      simp only [stepPick] at h
      split at h
      · split at h <;> simp at h; exact .inl h.2.2.symm
      · split at h <;> simp at h; exact .inl h.2.2.symm
      · cases h
  case alloc => split at h <;> simp_all
  case box => split at h <;> simp_all
  case ld n x =>
    left
    cases hx : evX env g x with
    | none => simp [hx, stepLd] at h
    | some d0 =>
      rw [hx] at h
      cases d0 <;> simp only [stepLd] at h <;> try (cases h; done)
      · split at h
        · split at h <;> simp at h; exact h.2.2.symm
        · cases h
      · split at h <;> cases h
  case st => split at h <;> simp_all
  case fld => split at h <;> simp at h <;> exact .inl h.2.2.symm
  case ixs sz x i =>
    left
    cases hx : evX env g x with
    | none => simp [hx, stepIxs] at h
    | some d0 =>
      cases hy : evX env g i with
      | none => rw [hx, hy] at h; cases d0 <;> simp [stepIxs] at h
      | some d1 =>
        rw [hx, hy] at h
        cases d0 <;> try (simp [stepIxs] at h; done)
        · cases d1 <;> simp [stepIxs] at h; exact h.2.2.symm
        · cases d1 <;> simp only [stepIxs] at h <;> try (cases h; done)
          split at h <;> simp at h; exact h.2.2.symm
  case part => split at h <;> try (cases h; done)
               split at h <;> simp at h; exact .inl h.2.2.symm
  case ixv => split at h <;> cases h
  case bld => split at h <;> try (cases h; done)
              split at h <;> simp at h; exact .inl h.2.2.symm
  case bsl => split at h <;> try (cases h; done)
              split at h <;> simp at h; exact .inl h.2.2.symm
  case bin => split at h <;> try (cases h; done)
              split at h <;> try (cases h; done)
              · exact .inl (hbin _ _ _ _ h)
              · exact .inl (hbin _ _ _ _ h)
  case eqb => split at h <;> simp at h <;> exact .inl h.2.2.symm
  case eqS => split at h <;> try (cases h; done)
              split at h <;> simp at h; exact .inl h.2.2.symm
  case not => split at h <;> simp at h; exact .inl h.2.2.symm
  case neg => split at h <;> try (cases h; done)
              split at h <;> simp at h; exact .inl h.2.2.symm
  case conv => split at h <;> simp at h; exact .inl h.2.2.symm
  case len str x =>
    left
    cases hx : evX env g x with
    | none => simp [hx, stepLen] at h
    | some d0 =>
      rw [hx] at h
      cases d0 <;> cases str <;> simp only [stepLen] at h <;> try (cases h; done)
      · simp at h; exact h.2.2.symm
      · simp at h; exact h.2.2.symm
      · split at h <;> simp at h; exact h.2.2.symm
  case mx => split at h <;> simp at h; exact .inl h.2.2.symm
  case mn => split at h <;> simp at h; exact .inl h.2.2.symm
  case call => split at h <;> try (cases h; done)
               split at h <;> cases h
  case nilS => split at h <;> simp_all
  case app => split at h <;> simp_all
  case ext => split at h <;> try (cases h; done)
              split at h <;> simp at h; exact .inl h.2.2.symm
end Go.AM
