/- One operation: what the little machine says of it is so in the model. -/
import Derived.Test.YtkcebadfgiknhaaCore6
set_option linter.all false
namespace Go.AM
open Go Go.RowKit

def Out (P : Program) (o : Oper) (a : Act) (w : World) (v : Value) (w' : World) : Prop :=
  (execOp a.eval o).run P w = .ok (.value v) w' ∨ ((execOp a.eval o).run P w = .ok .skip w' ∧ v = undef)

def ResOk (P : Program) (o : Oper) (m : M) (g : G) (env : Env) (bx : List Ent) : Res → Prop
  | .bad => True
  | .ok p d bx' => ∀ B w0 K0 K pl w a, Inv B w0 K0 K pl bx w → (∀ s ∈ msl m, SlotOk K pl env a s) → holds a g → (∀ q ∈ p, q) →
      ∃ v w' K' pl', Out P o a w v w' ∧ KLe K K' ∧ PLe pl pl' ∧ Inv B w0 K0 K' pl' bx' w' ∧ Rep K' pl' d v
  | .call p own f ds => ∀ B w0 K0 K pl w a, Inv B w0 K0 K pl bx w → (∀ s ∈ msl m, SlotOk K pl env a s) → holds a g → (∀ q ∈ p, q) →
      ∃ vs K', (execOp a.eval o).run P w = .ok (.enter f vs) w ∧ KLe K K' ∧ (∀ b o, K' b = some o → w.heap[b]? = some o) ∧ RepL K' pl0 ds vs.toList ∧ (own = false → K' = K)
  | .row p l i off n => ∀ B w0 K0 K pl w a, Inv B w0 K0 K pl bx w → (∀ s ∈ msl m, SlotOk K pl env a s) → holds a g → (∀ q ∈ p, q) → ∀ d d', l[i]? = some d → partOf d off n = some d' →
      ∃ v, (execOp a.eval o).run P w = .ok (.value v) w ∧ Rep K pl d' v
  | .arr p l i n => ∀ B w0 K0 K pl w a, Inv B w0 K0 K pl bx w → (∀ s ∈ msl m, SlotOk K pl env a s) → holds a g → (∀ q ∈ p, q) → ∀ d, partD l i n = some d →
      ∃ v, (execOp a.eval o).run P w = .ok (.value v) w ∧ Rep K pl d v

section
variable {P : Program} {o : Oper} {m : M} {g : G} {env : Env} {bx : List Ent}

/-- An operation that writes nothing. -/
theorem ResOk.pure {p : List Prop} {d : D} (h : ∀ B w0 K0 K pl w a, Inv B w0 K0 K pl bx w → (∀ s ∈ msl m, SlotOk K pl env a s) → holds a g → (∀ q ∈ p, q) →
    ∃ v, (execOp a.eval o).run P w = .ok (.value v) w ∧ Rep K pl d v) : ResOk P o m g env bx (.ok p d bx) := by
  intro B w0 K0 K pl w a hi hs hg hp
  obtain ⟨v, h1, h2⟩ := h B w0 K0 K pl w a hi hs hg hp
  exact ⟨v, w, K, pl, .inl h1, KLe.refl _, PLe.refl _, hi, h2⟩

theorem kEq_iff {a b : IntKind} : kEq a b = true ↔ a = b := by cases a <;> cases b <;> simp [kEq]

theorem wrap_fits {k : IntKind} {n : Int} (h : fits k n) : k.wrap n = n := by
  cases k <;> simp only [fits] at h <;> simp [IntKind.wrap, IntKind.min, IntKind.max, IntKind.bits, IntKind.signed] <;> omega

theorem binI_ok {op : BinOp} {k k2 : IntKind} {x y : Int} {p : List Prop} {d : D} {bx' : List Ent} (hop : k2 = k ∨ isShr op = true) (h : binI op k x y bx = .ok p d bx') (hp : ∀ q ∈ p, q) (K : Kn) (pl : Pl) (t : TypeId) (w : World) :
    bx' = bx ∧ ∃ v, (binOp op t (.int k x) (.int k2 y)).run P w = .ok v w ∧ Rep K pl d v := by
  cases op <;> simp only [binI, Res.ok.injEq, reduceCtorEq] at h
  all_goals
    obtain ⟨rfl, rfl, rfl⟩ := h
    refine ⟨rfl, ?_⟩
  all_goals try (have hk : k2 = k := by simpa [isShr] using hop); try subst hk
  case add =>
    have h1 : fits k2 (x + y) := hp _ (List.mem_singleton.2 rfl)
    refine ⟨.int k2 (x + y), ?_, by simp [Rep]⟩
    simp [binOp, Op.intArith, wrap_fits h1]
  case sub =>
    have h1 : fits k2 (x - y) := hp _ (List.mem_singleton.2 rfl)
    refine ⟨.int k2 (x - y), ?_, by simp [Rep]⟩
    simp [binOp, Op.intArith, wrap_fits h1]
  case mul =>
    have h1 : fits k2 (x * y) := hp _ (List.mem_singleton.2 rfl)
    refine ⟨.int k2 (x * y), ?_, by simp [Rep]⟩
    simp [binOp, Op.intArith, wrap_fits h1]
  case quo =>
    obtain ⟨h1, h2, h3⟩ := hp _ (List.mem_singleton.2 rfl)
    refine ⟨.int k2 (x / y), ?_, by simp [Rep]⟩
    have h4 : ¬ y = 0 := by omega
    simp [binOp, Op.intDiv, h4, Int.tdiv_eq_ediv_of_nonneg h1, wrap_fits h3]
  case rem =>
    obtain ⟨h1, h2⟩ := hp _ (List.mem_singleton.2 rfl)
    refine ⟨.int k2 (x % y), ?_, by simp [Rep]⟩
    have h4 : ¬ y = 0 := by omega
    simp [binOp, Op.intDiv, h4, Int.tmod_eq_emod_of_nonneg h1]
  case shr =>
    obtain ⟨h1, h2⟩ := hp _ (List.mem_singleton.2 rfl)
    refine ⟨.int k (x / 2 ^ y.toNat), ?_, by simp [Rep]⟩
    have h4 : ¬ y < 0 := by omega
    have h5 : min y.toNat k.bits = y.toNat := by omega
    have h6 : x.fdiv (2 ^ y.toNat) = x / 2 ^ y.toNat := Int.fdiv_eq_ediv_of_nonneg x (Int.le_of_lt (Int.pow_pos (by omega)))
    simp [binOp, Op.shift, h4, h5, h6]
  case eql => exact ⟨.bool (decide (x = y)), by simp [binOp, Op.intCmp]; rfl, by simp [Rep]⟩
  case neq => exact ⟨.bool (!decide (x = y)), by simp [binOp, Op.intCmp, bne]; rfl, by simp [Rep]⟩
  case lss => exact ⟨.bool (decide (x < y)), by simp [binOp, Op.intCmp], by simp [Rep]⟩
  case leq => exact ⟨.bool (decide (x ≤ y)), by simp [binOp, Op.intCmp], by simp [Rep]⟩
  case gtr => exact ⟨.bool (decide (y < x)), by simp [binOp, Op.intCmp], by simp [Rep]⟩
  case geq => exact ⟨.bool (decide (y ≤ x)), by simp [binOp, Op.intCmp], by simp [Rep]⟩
end
end Go.AM
