/- A law's row: what a contract says, as the row says it. -/
import Derived.Test.YtkcebadfgiknhaaCore19
import Derived.ProofKit
import Derived.Lib.SmallJoins
set_option linter.all false
namespace Go.AM
open Go Go.RowKit Go.ChangeShapes Go.WideShapes Go.ChangeAt Go.Joins

theorem trodAll_carry {H : Type} {enc : TypeId × Value → H} {P : Program} (hl : laidOutB P = true) {W W' : World} (hb : Below W.heap.size W W') :
    ∀ {ts : List TypeId} {vs : List Value} {ds : List (DataW H)} {ps : List MemPlace}, (ts.all fun t => P.readableRec t && decide (t < P.types.size)) = true → DataW.TrodAll enc P W 0 (fun _ => true) true ts vs ds ps → (∀ x ∈ ps, x.block < W.heap.size) →
      DataW.TrodAll enc P W' 0 (fun b => decide (b < W.heap.size)) true ts vs ds ps
  | [], _, _, _, _, h, _ => by
    obtain ⟨rfl, rfl, rfl⟩ := trodAll_nil h
    rfl
  | t :: ts, _, _, _, hr, h, hlt => by
    obtain ⟨v, vs1, d, ds1, a, b, rfl, rfl, rfl, h1, h2⟩ := trodAll_cons h
    simp only [List.all_cons, Bool.and_eq_true, decide_eq_true_eq] at hr
    exact trodAll_cons_mk (Below.trod hl hr.1.1 hr.1.2 h1 hb fun x hx => hlt x (by simp [hx])) (trodAll_carry hl hb (by simpa using hr.2) h2 fun x hx => hlt x (by simp [hx]))

theorem Below.keptAll {W W' : World} (hb : Below W.heap.size W W') (may : MemPlace → Prop) : W.keptBut W' may := by
  refine ⟨hb.os, hb.output, fun i hi => ?_⟩
  rw [hb.block i hi]
  cases h : W.heap[i]? with
  | none => trivial
  | some o => cases o <;> simp

/-- True, and all reads as it did. -/
theorem law_post {H : Type} {enc : TypeId × Value → H} {P : Program} {f : Func} {s : ChangeSpec} {apart fresh handsOn : Bool} {W W' : World} {args : Array Value} {ds gs : List (DataW H)} {before : List MemPlace} {tb : TypeId}
    (hl : laidOutB P = true) (hps : (f.params.toList.all fun t => P.readableRec t && decide (t < P.types.size)) = true) (hvars : s.vars = []) (hrt : f.resultTypes = #[tb]) (htb : P.underlying tb = some .bool)
    (hW : DataW.Whole enc P f.params.toList s.vars apart W args.toList ds gs before) (hfn : s.fn H ds = { results := [.lit (.bool true)], args := ds }) (hb : Below W.heap.size W W') :
    s.post enc P f apart fresh handsOn false W args (.bool true) W' := by
  have hW' := hW
  obtain ⟨p, q, hA, hV, rfl, hz, hn⟩ := hW
  rw [hvars] at hV
  obtain ⟨rfl, rfl⟩ := trodVars_none hV
  refine ⟨ds, [], p ++ [], [], p, [], hW', ?_, ?_, ?_, Below.keptAll hb _, nofun⟩
  · rw [hrt, List.append_nil, hfn]
    show DataW.TrodAll enc P W' _ _ _ [tb] [.bool true] [.lit (.bool true)] []
    exact trodAll_mk1 ⟨1, by simp [DataW.trod, htb, Value.cells]⟩
  · rw [List.append_nil, hfn]
    exact trodAll_carry hl hb hps hA fun x hx => hW'.lt x (by simp [hx])
  · rw [hvars, List.append_nil, hfn]
    exact rfl

theorem fits_wf {k : IntKind} {n : Int} (h : (Lit.int k n).wf = true) : fits k n := by
  cases k <;> simp [Lit.wf, IntKind.min, IntKind.max, IntKind.signed, IntKind.bits] at h <;> simp only [fits] <;> omega

/-- What is known at the start. -/
def K0 (W : World) : Kn := fun b => W.heap[b]?
theorem K0_mod (W : World) : ∀ b o, K0 W b = some o → W.heap[b]? = some o := fun _ _ h => h

theorem calls_law {P : Program} {f : FuncId} {W : World} {vs : Array Value} {ds : List D} (h : Sp P f ds (.bool true)) (hr : RepL (K0 W) pl0 ds vs.toList) : Calls P f vs W fun e W' => e = .returned (.bool true) ∧ Below W.heap.size W W' := by
  refine (h (K0 W) W vs (K0_mod W) hr).mono ?_
  rintro e w' ⟨v, K', rfl, _, _, _, hv, hb⟩
  simp only [Rep] at hv
  subst hv
  exact ⟨rfl, hb⟩
end Go.AM
