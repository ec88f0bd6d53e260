/- What a user of the little machine needs. -/
import Derived.Test.YtkcebadfgiknhaaCore18
set_option linter.all false
namespace Go.AM
open Go

section
variable {Sp : Nat → List D → D → Prop}

theorem loop_ind {α : Type} {c : C} {K : Ex → St → Prop} (S : α → St) (μ : α → Nat) (h : ∀ x, ∀ I : St → Prop, (∀ y, μ y < μ x → I (S y)) → run Sp c (thenR (some' I) K) (S x)) (x : α) {st : St} (h0 : st = S x) : run Sp (.loop c) K st := by
  subst h0
  intro I hI
  refine .inl ?_
  have key : ∀ n x, μ x = n → I (S x) := by
    intro n
    induction n using Nat.strongRecOn with
    | _ n ih =>
      intro x hx
      exact hI _ (h x I fun y hy => ih (μ y) (hx ▸ hy) y rfl)
  exact key _ x rfl

theorem allP_mono : ∀ {l : List Prop} {p q : Prop}, (p → q) → allP l p → allP l q
  | [], _, _, h, hp => h hp
  | _ :: _, _, _, h, hp => ⟨hp.1, allP_mono h hp.2⟩

theorem goOnR_mono {R R' : St → Prop} (h : ∀ s, R s → R' s) {hs : List Prop} {dst : Option Nat} {g : G} {st : St} : ∀ {r : Res}, goOnR Sp R hs dst g st r → goOnR Sp R' hs dst g st r
  | .bad, hr => hr
  | .ok _ _ _, hr => allP_mono (h _) hr
  | .call _ _ _ _, hr => allP_mono (fun ⟨d, a, b, c⟩ => ⟨d, a, b, h _ c⟩) hr
  | .row _ _ _ _ _, hr => allP_mono (fun ⟨d, d', a, b, c⟩ => ⟨d, d', a, b, h _ c⟩) hr
  | .arr _ _ _ _, hr => allP_mono (fun ⟨d, a, c⟩ => ⟨d, a, h _ c⟩) hr

theorem runOps_mono {R R' : St → Prop} (h : ∀ s, R s → R' s) : ∀ {os : List O} {st : St}, runOps Sp os R st → runOps Sp os R' st
  | [], _, hr => h _ hr
  | o :: os, st, hr => by
    simp only [runOps] at hr ⊢
    cases hg : guardO o.dst (guardP st.env o.g) with
    | none => rw [hg] at hr; exact hr
    | some g => rw [hg] at hr; exact goOnR_mono (R := runOps Sp os R) (R' := runOps Sp os R') (fun s hs => runOps_mono h hs) hr

theorem run_mono : ∀ {c : C} {K K' : Ex → St → Prop} {st : St}, (∀ e s, K e s → K' e s) → run Sp c K st → run Sp c K' st
  | .skip, _, _, _, h, hr => h _ _ hr
  | .ret, _, _, _, h, hr => h _ _ hr
  | .exit _, _, _, _, h, hr => h _ _ hr
  | .reg _ ops ks, K, K', st, h, hr => by
    simp only [run] at hr ⊢
    cases hp : plainB st.env with
    | false => rw [hp] at hr; exact hr
    | true => rw [hp] at hr; exact runOps_mono (fun s hs => h _ _ hs) hr
  | .seq a b, K, K', st, h, hr => by
    simp only [run] at hr ⊢
    refine run_mono (fun e s hs => ?_) hr
    cases e with
    | nrm => exact run_mono h hs
    | exit id => exact h _ _ hs
    | ret => exact h _ _ hs
  | .ite x a b, K, K', st, h, hr => by
    simp only [run] at hr ⊢
    cases he : evX st.env [] x with
    | none => rw [he] at hr; exact hr
    | some d =>
      rw [he] at hr
      cases d <;> try (exact hr)
      exact ⟨fun t => run_mono h (hr.1 t), fun t => run_mono h (hr.2 t)⟩
  | .blk id c, K, K', st, h, hr => by
    simp only [run] at hr ⊢
    refine run_mono (fun e s hs => ?_) hr
    cases e with
    | nrm => exact h _ _ hs
    | ret => exact h _ _ hs
    | exit j =>
      simp only [blkK] at hs ⊢
      cases hj : j == id with
      | true => rw [hj] at hs; exact h _ _ hs
      | false => rw [hj] at hs; exact h _ _ hs
  | .loop c, K, K', st, h, hr => by
    simp only [run] at hr ⊢
    intro I hI
    refine hr I fun s hs => hI s (run_mono (fun e s hs => ?_) hs)
    cases e with
    | nrm => exact hs
    | exit id => exact h _ _ hs
    | ret => exact h _ _ hs

theorem run_unroll {c : C} {K : Ex → St → Prop} {st : St} (h : run Sp c (thenR (run Sp (.loop c) K) K) st) : run Sp (.loop c) K st := by
  intro I hI
  refine .inl (hI st (run_mono (fun e s hs => ?_) h))
  cases e with
  | nrm => exact hs I hI
  | exit id => exact hs
  | ret => exact hs

/-- What is between two pieces, in one's own words. -/
theorem run_cut {a b : C} {K : Ex → St → Prop} {st : St} (M : Ex → St → Prop) (h : run Sp a M st) (hk : ∀ e s, M e s → thenR (run Sp b K) K e s) : run Sp (.seq a b) K st := by
  simp only [run]
  exact run_mono hk h

theorem thenR_nrm (R : St → Prop) (K : Ex → St → Prop) (st : St) : thenR R K .nrm st = R st := rfl
theorem thenR_exit (R : St → Prop) (K : Ex → St → Prop) (j : Nat) (st : St) : thenR R K (.exit j) st = K (.exit j) st := rfl
theorem thenR_ret (R : St → Prop) (K : Ex → St → Prop) (st : St) : thenR R K .ret st = K .ret st := rfl

theorem again {I : St → Prop} {s s' : St} (h : I s') (h1 : subE s.env s'.env) (h2 : subB s.bx s'.bx) (h3 : lowE (sizeE s'.bx) s'.env = true) (h4 : lowB (sizeE s'.bx) s'.bx = true) : some' I s := .inr ⟨s', ⟨h1, h2, h3, h4⟩, h⟩
end

/-- The first loop's body. -/
def C.lp : C → Option C
  | .loop c => some c
  | .seq a b | .ite _ a b => match a.lp with | some c => some c | none => b.lp
  | .blk _ c => c.lp
  | _ => none

theorem Sp_of {P : Program} (hm : P.follows .mixedOrders = true) {f : FuncId} {fn : Func} (c : C) (rs : List R) (hf : P.funcs[f]? = some fn) (hc : (fn.body.bind (compC P fn.ntmps)) = some c.bare) (hr : compRs P fn.results.toList = some rs)
    {ds : List D} {d : D} (hn : Nat.ble ds.length fn.ntmps = true) (h : run (Sp P) c (retK rs (· = d)) ⟨env0 0 ds, []⟩) : Sp P f ds d := Sp_of_run hm hf hc hr (Nat.le_of_ble_eq_true hn) h
end Go.AM
