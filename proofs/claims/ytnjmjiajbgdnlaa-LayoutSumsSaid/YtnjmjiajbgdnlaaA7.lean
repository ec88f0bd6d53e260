/- One operation: what the little machine says of it is so in the model. -/
import Derived.Test.YtnjmjiajbgdnlaaA6
set_option linter.all false
namespace Go.AM
open Go Go.RowKit

def Out (P : Program) (o : Oper) (a : Act) (w : World) (v : Value) (w' : World) : Prop :=
  (execOp a.eval o).run P w = .ok (.value v) w' ∨ ((execOp a.eval o).run P w = .ok .skip w' ∧ v = undef)

/-- A function that may be called. -/
def okFn (P : Program) (f : Nat) : Prop := ∃ fn, P.funcs[f]? = some fn ∧ (fn.name == "runtime.NumGoroutine") = false ∧ fn.body.isSome = true

def ResOk (P : Program) (gt : Nat → Option (List D)) (o : Oper) (m : M) (g : G) (env : Env) (bx : List Ent) : Res → Prop
  | .bad => True
  | .ok p d bx' => ∀ F K pl w a, F.gt = gt → Inv F K pl bx w → (∀ s ∈ msl m, SlotOk K pl env a s) → holds a g → (∀ q ∈ p, q) →
      ∃ v w' K' pl', Out P o a w v w' ∧ KLe K K' ∧ PLe pl pl' ∧ Inv F K' pl' bx' w' ∧ Rep K' pl' d v
  | .call p eff f ds => ∀ F K pl w a, F.gt = gt → Inv F K pl bx w → (∀ s ∈ msl m, SlotOk K pl env a s) → holds a g → (∀ q ∈ p, q) → okFn P f →
      ∃ vs, (execOp a.eval o).run P w = .ok (.enter f vs) w ∧ RepL K pl ds vs.toList
  | .row p l i off n => ∀ F K pl w a, F.gt = gt → Inv F K pl bx w → (∀ s ∈ msl m, SlotOk K pl env a s) → holds a g → (∀ q ∈ p, q) → ∀ d d', l[i]? = some d → partOf d off n = some d' →
      ∃ v, (execOp a.eval o).run P w = .ok (.value v) w ∧ Rep K pl d' v
  | .arr p l i n => ∀ F K pl w a, F.gt = gt → Inv F K pl bx w → (∀ s ∈ msl m, SlotOk K pl env a s) → holds a g → (∀ q ∈ p, q) → ∀ d, partD l i n = some d →
      ∃ v, (execOp a.eval o).run P w = .ok (.value v) w ∧ Rep K pl d v
  | .ask p Q => ∀ F K pl w a, F.gt = gt → Inv F K pl bx w → (∀ s ∈ msl m, SlotOk K pl env a s) → holds a g → (∀ q ∈ p, q) → ∀ d, Q d →
      ∃ v, (execOp a.eval o).run P w = .ok (.value v) w ∧ Rep K pl d v
  | .put p Q d mk => ∀ F K pl w a, F.gt = gt → Inv F K pl bx w → (∀ s ∈ msl m, SlotOk K pl env a s) → holds a g → (∀ q ∈ p, q) → ∀ l', Q l' →
      ∃ v w' K' pl', Out P o a w v w' ∧ KLe K K' ∧ PLe pl pl' ∧ Inv F K' pl' (mk l') w' ∧ Rep K' pl' d v

section
variable {P : Program} {gt : Nat → Option (List D)} {o : Oper} {m : M} {g : G} {env : Env} {bx : List Ent}

/-- An operation that writes nothing. -/
theorem ResOk.pure {p : List Prop} {d : D} (h : ∀ F K pl w a, F.gt = gt → Inv F K pl bx w → (∀ s ∈ msl m, SlotOk K pl env a s) → holds a g → (∀ q ∈ p, q) →
    ∃ v, (execOp a.eval o).run P w = .ok (.value v) w ∧ Rep K pl d v) : ResOk P gt o m g env bx (.ok p d bx) := by
  intro F K pl w a hF hi hs hg hp
  obtain ⟨v, h1, h2⟩ := h F K pl w a hF hi hs hg hp
  exact ⟨v, w, K, pl, .inl h1, KLe.refl _, PLe.refl _, hi, h2⟩

theorem kEq_iff {a b : IntKind} : kEq a b = true ↔ a = b := by cases a <;> cases b <;> simp [kEq]

theorem wrap_fits {k : IntKind} {n : Int} (h : fits k n) : k.wrap n = n := by
  cases k <;> simp only [fits] at h <;> simp [IntKind.wrap, IntKind.min, IntKind.max, IntKind.bits, IntKind.signed] <;> omega

theorem fits_lt {k : IntKind} {x : Int} (h0 : 0 ≤ x) (h : fits k x) : x.toNat < 2 ^ k.bits := by
  cases k <;> simp only [fits] at h <;> simp [IntKind.bits] <;> omega
theorem ofInt_toNat' {k : IntKind} {x : Int} (h0 : 0 ≤ x) (h : fits k x) : (BitVec.ofInt k.bits x).toNat = x.toNat := by
  rw [BitVec.toNat_ofInt]
  have h1 := fits_lt h0 h
  have h2 : x % ((2 ^ k.bits : Nat) : Int) = x := Int.emod_eq_of_lt h0 (by omega)
  rw [h2]
theorem fits_nat {k : IntKind} {x : Int} {n : Nat} (h0 : 0 ≤ x) (h : fits k x) (hn : n ≤ x.toNat) : fits k (Int.ofNat n) := by
  cases k <;> simp only [fits] at h ⊢ <;> simp <;> omega
theorem bits_and {k : IntKind} {x y : Int} (h1 : 0 ≤ x) (h2 : 0 ≤ y) (h3 : fits k x) (h4 : fits k y) : k.wrap (((BitVec.ofInt k.bits x) &&& (BitVec.ofInt k.bits y)).toNat : Int) = Int.ofNat (x.toNat &&& y.toNat) := by
  rw [BitVec.toNat_and, ofInt_toNat' h1 h3, ofInt_toNat' h2 h4]
  exact wrap_fits (fits_nat h1 h3 Nat.and_le_left)
theorem fits_or {k : IntKind} {x y : Int} (h1 : 0 ≤ x) (h2 : 0 ≤ y) (h3 : fits k x) (h4 : fits k y) : fits k (Int.ofNat (x.toNat ||| y.toNat)) := by
  have key : ∀ b : Nat, x.toNat < 2 ^ b → y.toNat < 2 ^ b → x.toNat ||| y.toNat < 2 ^ b := fun b ha hb => Nat.or_lt_two_pow ha hb
  cases k <;> simp only [fits] at h3 h4 ⊢
  · have := key 7 (by omega) (by omega); simp; omega
  · have := key 15 (by omega) (by omega); simp; omega
  · have := key 31 (by omega) (by omega); simp; omega
  · have := key 63 (by omega) (by omega); simp; omega
  · have := key 8 (by omega) (by omega); simp; omega
  · have := key 16 (by omega) (by omega); simp; omega
  · have := key 32 (by omega) (by omega); simp; omega
  · have := key 64 (by omega) (by omega); simp; omega
theorem bits_or {k : IntKind} {x y : Int} (h1 : 0 ≤ x) (h2 : 0 ≤ y) (h3 : fits k x) (h4 : fits k y) : k.wrap (((BitVec.ofInt k.bits x) ||| (BitVec.ofInt k.bits y)).toNat : Int) = Int.ofNat (x.toNat ||| y.toNat) := by
  rw [BitVec.toNat_or, ofInt_toNat' h1 h3, ofInt_toNat' h2 h4]
  exact wrap_fits (fits_or h1 h2 h3 h4)

theorem binI_ok {op : BinOp} {k k2 : IntKind} {x y : Int} {p : List Prop} {d : D} {bx' : List Ent} (hop : k2 = k ∨ isShr op = true) (h : binI op k x y bx = .ok p d bx') (hp : ∀ q ∈ p, q) (K : Kn) (pl : Pl) (t : TypeId) (w : World) :
    bx' = bx ∧ ∃ v, (binOp op t (.int k x) (.int k2 y)).run P w = .ok v w ∧ Rep K pl d v := by
  cases op <;> simp only [binI, Res.ok.injEq, reduceCtorEq] at h
  all_goals
    obtain ⟨rfl, rfl, rfl⟩ := h
    refine ⟨rfl, ?_⟩
  all_goals try (have hk : k2 = k := by simpa [isShr] using hop); try subst hk
  case add =>
    have h1 : fits k2 (x + y) := hp _ (List.mem_singleton.2 rfl)
    refine ⟨.int k2 (x + y), ?_, by simp [Rep]⟩
    simp [binOp, Op.intArith, wrap_fits h1]
  case sub =>
    have h1 : fits k2 (x - y) := hp _ (List.mem_singleton.2 rfl)
    refine ⟨.int k2 (x - y), ?_, by simp [Rep]⟩
    simp [binOp, Op.intArith, wrap_fits h1]
  case mul =>
    have h1 : fits k2 (x * y) := hp _ (List.mem_singleton.2 rfl)
    refine ⟨.int k2 (x * y), ?_, by simp [Rep]⟩
    simp [binOp, Op.intArith, wrap_fits h1]
  case quo =>
    obtain ⟨h1, h2, h3⟩ := hp _ (List.mem_singleton.2 rfl)
    refine ⟨.int k2 (x / y), ?_, by simp [Rep]⟩
    have h4 : ¬ y = 0 := by omega
    simp [binOp, Op.intDiv, h4, Int.tdiv_eq_ediv_of_nonneg h1, wrap_fits h3]
  case rem =>
    obtain ⟨h1, h2⟩ := hp _ (List.mem_singleton.2 rfl)
    refine ⟨.int k2 (x % y), ?_, by simp [Rep]⟩
    have h4 : ¬ y = 0 := by omega
    simp [binOp, Op.intDiv, h4, Int.tmod_eq_emod_of_nonneg h1]
  case shr =>
    obtain ⟨h1, h2⟩ := hp _ (List.mem_singleton.2 rfl)
    refine ⟨.int k (x / 2 ^ y.toNat), ?_, by simp [Rep]⟩
    have h4 : ¬ y < 0 := by omega
    have h5 : min y.toNat k.bits = y.toNat := by omega
    have h6 : x.fdiv (2 ^ y.toNat) = x / 2 ^ y.toNat := Int.fdiv_eq_ediv_of_nonneg x (Int.le_of_lt (Int.pow_pos (by omega)))
    simp [binOp, Op.shift, h4, h5, h6]
  case shl =>
    obtain ⟨h1, h2, h3⟩ := hp _ (List.mem_singleton.2 rfl)
    refine ⟨.int k (x * 2 ^ y.toNat), ?_, by simp [Rep]⟩
    have h4 : ¬ y < 0 := by omega
    have h5 : min y.toNat k.bits = y.toNat := by omega
    simp [binOp, Op.shift, h4, h5, wrap_fits h3]
  case and =>
    obtain ⟨h1, h2, h3, h4⟩ := hp _ (List.mem_singleton.2 rfl)
    refine ⟨.int k2 (Int.ofNat (x.toNat &&& y.toNat)), ?_, by simp [Rep]⟩
    have hb := bits_and h1 h2 h3 h4
    simpa [binOp, Op.intBits] using hb
  case or =>
    obtain ⟨h1, h2, h3, h4⟩ := hp _ (List.mem_singleton.2 rfl)
    refine ⟨.int k2 (Int.ofNat (x.toNat ||| y.toNat)), ?_, by simp [Rep]⟩
    have hb := bits_or h1 h2 h3 h4
    simpa [binOp, Op.intBits] using hb
  case eql => exact ⟨.bool (decide (x = y)), by simp [binOp, Op.intCmp]; rfl, by simp [Rep]⟩
  case neq => exact ⟨.bool (!decide (x = y)), by simp [binOp, Op.intCmp, bne]; rfl, by simp [Rep]⟩
  case lss => exact ⟨.bool (decide (x < y)), by simp [binOp, Op.intCmp], by simp [Rep]⟩
  case leq => exact ⟨.bool (decide (x ≤ y)), by simp [binOp, Op.intCmp], by simp [Rep]⟩
  case gtr => exact ⟨.bool (decide (y < x)), by simp [binOp, Op.intCmp], by simp [Rep]⟩
  case geq => exact ⟨.bool (decide (y ≤ x)), by simp [binOp, Op.intCmp], by simp [Rep]⟩
end
end Go.AM
