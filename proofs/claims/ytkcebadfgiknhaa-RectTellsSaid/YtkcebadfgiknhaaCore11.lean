/- One operation, kind by kind: the last ones; and all of them. -/
import Derived.Test.YtkcebadfgiknhaaCore10
set_option linter.all false
namespace Go.AM
open Go Go.RowKit

section
variable {P : Program} {g : G} {env : Env} {bx : List Ent} {dst : Option Tmp} {ty : TypeId} {pos : String} {after : Array Edge} {guard : Option (Nat × Bool)}

theorem ok_not {t : TypeId} {x : Operand} {x' : X} (hx : opX P t x = some x') : ResOk P ⟨dst, .unOp .not t x, ty, pos, after, guard⟩ (.not x') g env bx (stepF (.not x') g env bx) := by
  simp only [stepF]
  split
  · rename_i b he
    refine ResOk.pure ?_
    intro B w0 K0 K pl w a hi hs hg hp
    have h1 := ev_ok (K := K) (pl := pl) hx hs hg he
    simp only [Rep] at h1
    exact ⟨.bool (!b), by simp [execOp, h1, Op.unary], by simp only [Rep]⟩
  · trivial

theorem ok_neg {t : TypeId} {k : IntKind} {x : Operand} {x' : X} (hx : opX P t x = some x') : ResOk P ⟨dst, .unOp .neg t x, ty, pos, after, guard⟩ (.neg k x') g env bx (stepF (.neg k x') g env bx) := by
  simp only [stepF]
  split
  · rename_i k' n he
    split
    · rename_i hk
      have := kEq_iff.1 hk; subst this
      refine ResOk.pure ?_
      intro B w0 K0 K pl w a hi hs hg hp
      have h1 := ev_ok (K := K) (pl := pl) hx hs hg he
      have h2 : fits k (-n) := hp _ (List.mem_singleton.2 rfl)
      simp only [Rep] at h1
      exact ⟨.int k (-n), by simp [execOp, h1, Op.unary, Op.intArith, wrap_fits h2], by simp only [Rep]⟩
    · trivial
  · trivial

theorem ok_conv {s d : TypeId} {k' k : IntKind} {x : Operand} {x' : X} (hs0 : intKind P s = some k') (hd0 : intKind P d = some k) (hx : opX P s x = some x') : ResOk P ⟨dst, .convert s d x, ty, pos, after, guard⟩ (.conv k x') g env bx (stepF (.conv k x') g env bx) := by
  simp only [stepF]
  split
  · rename_i k'' n he
    refine ResOk.pure ?_
    intro B w0 K0 K pl w a hi hs hg hp
    have h1 := ev_ok (K := K) (pl := pl) hx hs hg he
    have h2 : fits k n := hp _ (List.mem_singleton.2 rfl)
    simp only [Rep] at h1
    have hu : P.underlying d = some (.int k) := by
      unfold intKind at hd0
      split at hd0
      · rename_i hh; cases hd0; exact hh
      · cases hd0
    have hu' : P.underlying s = some (.int k') := by
      unfold intKind at hs0
      split at hs0
      · rename_i hh; cases hs0; exact hh
      · cases hs0
    exact ⟨.int k n, by simp [execOp, h1, convert, Sem.run_bind, run_underlying hu, run_underlying hu', Conv.intToInt, wrap_fits h2], by simp only [Rep]⟩
  · trivial

theorem run_resolve_builtin (b : Builtin) (args : Array Operand) (ts : Array TypeId) (t : TypeId) (ρ : Operand → Value) (w : World) :
    (resolve ρ { callee := .builtin b, args := args, argTypes := ts } t).run P w = .ok { target := .builtin b ts t (args.map fun | .const _ => true | _ => false), args := args.map ρ } w := by
  simp [resolve]
  intro a _; cases a <;> rfl

theorem run_lift {s : Sem Value} {w w' : World} {v : Value} (h : s.run P w = .ok v w') : (s >>= fun x => (pure (Next.value x) : Sem Next)).run P w = .ok (.value v) w' := by
  rw [Sem.run_bind, h]; rfl

theorem run_builtin_op {b : Builtin} {args : Array Operand} {ts : Array TypeId} {a : Act} {w w' : World} {v : Value} {cs : Array Bool} {S : Sem Next}
    (hS : ∀ cs, builtin b ts ty cs (args.map a.eval) = S) (hv : S.run P w = .ok (.value v) w') :
    (execOp a.eval ⟨dst, .call { callee := .builtin b, args := args, argTypes := ts }, ty, pos, after, guard⟩).run P w = .ok (.value v) w' := by
  simp only [execOp, Sem.run_bind, run_resolve_builtin, Result.andThen_ok, invoke, hS, hv]

theorem ok_len {str : Bool} {t : TypeId} {x : Operand} {x' : X} (hu : if str then P.underlying t = some .string else ∃ e, P.underlying t = some (.slice e)) (hx : opX P t x = some x') :
    ResOk P ⟨dst, .call { callee := .builtin .len, args := #[x], argTypes := #[t] }, ty, pos, after, guard⟩ (.len str x') g env bx (stepF (.len str x') g env bx) := by
  simp only [stepF]
  cases he : evX env g x' with
  | none => simp [stepLen, ResOk]
  | some d =>
    cases d <;> cases str <;> try (simp [stepLen, ResOk]; done)
    case str.true s =>
      simp only [stepLen]
      refine ResOk.pure ?_
      intro B w0 K0 K pl w a hi hs hg hp
      have h1 := ev_ok (K := K) (pl := pl) hx hs hg he
      simp only [Rep] at h1
      simp at hu
      refine ⟨.int .i64 s.size, run_builtin_op (cs := #[]) (fun cs => rfl) ?_, by simp only [Rep]⟩
      have hl : (Builtin.len_ #[t] ty #[a.eval x]).run P w = .ok (.int .i64 s.size) w := by simp [Builtin.len_, h1, Sem.run_bind, run_underlying hu, goInt]
      simp only [List.map_toArray, List.map_cons, List.map_nil]; exact run_lift hl
    case ls.false sz l =>
      simp only [stepLen]
      refine ResOk.pure ?_
      intro B w0 K0 K pl w a hi hs hg hp
      have h1 := ev_ok (K := K) (pl := pl) hx hs hg he
      simp only [Rep] at h1
      obtain ⟨a', n, c, h2, h3, _⟩ := h1
      simp at hu
      obtain ⟨e, hu⟩ := hu
      refine ⟨.int .i64 l.length, run_builtin_op (cs := #[]) (fun cs => rfl) ?_, by simp only [Rep]⟩
      have hl : (Builtin.len_ #[t] ty #[a.eval x]).run P w = .ok (.int .i64 l.length) w := by simp [Builtin.len_, h2, h3, Sem.run_bind, run_underlying hu, goInt]
      simp only [List.map_toArray, List.map_cons, List.map_nil]; exact run_lift hl
    case own.false k ver =>
      simp only [stepLen]
      split
      · rename_i ety sz ver' rows hk
        rw [entN_eq] at hk
        refine ResOk.pure ?_
        intro B w0 K0 K pl w a hi hs hg hp
        have h1 := ev_ok (K := K) (pl := pl) hx hs hg he
        simp only [Rep] at h1
        have hver : ver = ver' := hp _ (List.mem_singleton.2 rfl)
        subst hver
        obtain ⟨v, vs, h5, h6, _⟩ := hi.tab.ok k _ hk
        rw [h1.1] at h5; cases h5
        simp at hu
        obtain ⟨e, hu⟩ := hu
        refine ⟨.int .i64 rows.length, run_builtin_op (cs := #[]) (fun cs => rfl) ?_, by simp only [Rep]⟩
        have hl : (Builtin.len_ #[t] ty #[a.eval x]).run P w = .ok (.int .i64 rows.length) w := by
          rcases h6.2 with ⟨h9, h10⟩ | ⟨gb, cap, cur, h9, h10, h11, _⟩
          · simp [Builtin.len_, h9, h10, Sem.run_bind, run_underlying hu, goInt]
          · simp [Builtin.len_, h9, Sem.run_bind, run_underlying hu, goInt]
        simp only [List.map_toArray, List.map_cons, List.map_nil]; exact run_lift hl
      · trivial

theorem ok_mx {t u : TypeId} {x y : Operand} {x' y' : X} (hx : opX P t x = some x') (hy : opX P u y = some y') :
    ResOk P ⟨dst, .call { callee := .builtin .max, args := #[x, y], argTypes := #[t, u] }, ty, pos, after, guard⟩ (.mx x' y') g env bx (stepF (.mx x' y') g env bx) := by
  simp only [stepF]
  split
  · rename_i k m k' n hd he
    refine ResOk.pure ?_
    intro B w0 K0 K pl w a hi hs hg hp
    have h1 := ev_ok (K := K) (pl := pl) hx (fun s hs' => hs s (xslL hs')) hg hd
    have h2 := ev_ok (K := K) (pl := pl) hy (fun s hs' => hs s (xslR hs')) hg he
    simp only [Rep] at h1 h2
    refine ⟨.int k (max m n), run_builtin_op (cs := #[]) (fun cs => rfl) ?_, by simp only [Rep]⟩
    have : (if n > m then n else m) = max m n := by omega
    have hl : (Builtin.max_ #[t, u] ty #[a.eval x, a.eval y]).run P w = .ok (.int k (max m n)) w := by simp [Builtin.max_, Builtin.max2, h1, h2, this]
    simp only [List.map_toArray, List.map_cons, List.map_nil]; exact run_lift hl
  · trivial

theorem ok_mn {t u : TypeId} {x y : Operand} {x' y' : X} (hx : opX P t x = some x') (hy : opX P u y = some y') :
    ResOk P ⟨dst, .call { callee := .builtin .min, args := #[x, y], argTypes := #[t, u] }, ty, pos, after, guard⟩ (.mn x' y') g env bx (stepF (.mn x' y') g env bx) := by
  simp only [stepF]
  split
  · rename_i k m k' n hd he
    refine ResOk.pure ?_
    intro B w0 K0 K pl w a hi hs hg hp
    have h1 := ev_ok (K := K) (pl := pl) hx (fun s hs' => hs s (xslL hs')) hg hd
    have h2 := ev_ok (K := K) (pl := pl) hy (fun s hs' => hs s (xslR hs')) hg he
    simp only [Rep] at h1 h2
    refine ⟨.int k (min m n), run_builtin_op (cs := #[]) (fun cs => rfl) ?_, by simp only [Rep]⟩
    have : (if n < m then n else m) = min m n := by omega
    have hl : (Builtin.min_ #[t, u] ty #[a.eval x, a.eval y]).run P w = .ok (.int k (min m n)) w := by simp [Builtin.min_, Builtin.min2, h1, h2, this]
    simp only [List.map_toArray, List.map_cons, List.map_nil]; exact run_lift hl
  · trivial

theorem ok_ext {x : Operand} {x' : X} {i : Nat} (hx : opX P 0 x = some x') : ResOk P ⟨dst, .extract x i, ty, pos, after, guard⟩ (.ext x' i) g env bx (stepF (.ext x' i) g env bx) := by
  simp only [stepF]
  split
  · rename_i l he
    split
    · rename_i d hd
      refine ResOk.pure ?_
      intro B w0 K0 K pl w a hi hs hg hp
      have h1 := ev_ok (K := K) (pl := pl) hx hs hg he
      simp only [Rep] at h1
      obtain ⟨cs, h2, h3⟩ := h1
      rw [nth_eq] at hd
      obtain ⟨v, h4, h5⟩ := h3.get i hd
      exact ⟨v, by simp [execOp, Instr.extract, h2, h4], h5⟩
    · trivial
  · trivial

theorem ok_bld {t : TypeId} {parts : Array (Nat × Operand)} {z : List D} {parts' : List (Nat × Option Nat × X)} (hz : zeroOf P t = some z)
    (hp : (∃ fs : Array Field, P.underlying t = some (.struct fs) ∧ compParts P (fun i => fs[i]?.map fun f => (f.offset, f.type)) parts.toList = some parts' ∧ ∀ (i : Nat) (f : Field), fs[i]? = some f → (szOf P f.type).isSome = true) ∨
      (∃ n e s, P.underlying t = some (.array n e) ∧ szOf P e = some s ∧ compParts P (fun i => some (i * s, e)) parts.toList = some parts')) :
    ResOk P ⟨dst, .build t parts, ty, pos, after, guard⟩ (.bld z parts') g env bx (stepF (.bld z parts') g env bx) := by
  simp only [stepF]
  split
  · rename_i ds hds
    split
    · rename_i l hl
      refine ResOk.pure ?_
      intro B w0 K0 K pl w a hi hs hg hq
      obtain ⟨zv, hz1, hz2, inf, hz3, hz4⟩ := run_zero hz w
      obtain ⟨h3, h4⟩ := repsB_ok K pl hz2
      rcases hp with ⟨fs, hu, hc, hsz⟩ | ⟨n, e, s, hu, hsz, hc⟩
      · obtain ⟨places, hpl, hpl2⟩ : ∃ places : List (Nat × Nat), (fs.toList.mapM fun f => (P.info? f.type).map fun i => (f.offset, i.size)) = some places ∧ ∀ (i off : Nat) (t' : TypeId) (n' : Nat), (fs[i]?.map fun (f : Field) => (f.offset, f.type)) = some (off, t') → szOf P t' = some n' → places[i]? = some (off, n') := by
          have gen : ∀ (l : List Field), (∀ (i : Nat) (f : Field), l[i]? = some f → (szOf P f.type).isSome = true) → ∃ places : List (Nat × Nat), (l.mapM fun f => (P.info? f.type).map fun i => (f.offset, i.size)) = some places ∧ ∀ (i off : Nat) (t' : TypeId) (n' : Nat), (l[i]?.map fun (f : Field) => (f.offset, f.type)) = some (off, t') → szOf P t' = some n' → places[i]? = some (off, n') := by
            intro l
            induction l with
            | nil => intro _; exact ⟨[], rfl, fun i off t' n' h => by simp at h⟩
            | cons f l ih =>
              intro hall
              obtain ⟨pl', h5, h6⟩ := ih (fun i f' hf' => hall (i + 1) f' (by simpa using hf'))
              have := hall 0 f (by simp)
              cases hi' : P.info? f.type with
              | none => simp [szOf, hi'] at this
              | some inf =>
                refine ⟨(f.offset, inf.size) :: pl', by simp [List.mapM_cons, hi', h5], fun i off t' n' h7 h8 => ?_⟩
                cases i with
                | zero =>
                  simp at h7
                  obtain ⟨rfl, rfl⟩ := h7
                  simp [szOf, hi'] at h8
                  simp [h8]
                | succ i => simp at h7 ⊢; exact h6 i off t' n' (by simpa using h7) h8
          obtain ⟨places, h5, h6⟩ := gen fs.toList (fun i f hf => hsz i f (by simpa using hf))
          exact ⟨places, h5, fun i off t' n' h7 h8 => h6 i off t' n' (by simpa using h7) h8⟩
        obtain ⟨r, h5, h6, h7⟩ := fill_parts (K := K) (pl := pl) (a := a) (place := fun i => places[i]?) hpl2 hg parts.toList parts' z l zv.cells ds hc hs hds h3 h4 hl
        refine ⟨.agg r, ?_, by simp only [Rep]; exact ⟨r.toList, by simp, h6, h7⟩⟩
        have hb : P.built t (parts.map fun (p : Nat × Operand) => (p.1, a.eval p.2)).toList = some r := by
          simp only [Program.built, hz3, hu, hz4, hpl, List.getElem?_toArray, Array.toList_map]
          exact h5
        have := run_build w t _ r hb
        simp [execOp, this]
      · obtain ⟨ie, hie, hie2⟩ : ∃ ie, P.info? e = some ie ∧ ie.size = s := by
          cases hi' : P.info? e with
          | none => simp [szOf, hi'] at hsz
          | some ie => simp [szOf, hi'] at hsz; exact ⟨ie, rfl, hsz⟩
        subst hie2
        obtain ⟨r, h5, h6, h7⟩ := fill_parts (K := K) (pl := pl) (a := a) (place := fun i => some (i * ie.size, ie.size)) (fun i off t' n' h7 h8 => by
          simp at h7
          obtain ⟨rfl, rfl⟩ := h7
          rw [hsz] at h8; cases h8; rfl) hg parts.toList parts' z l zv.cells ds hc hs hds h3 h4 hl
        refine ⟨.agg r, ?_, by simp only [Rep]; exact ⟨r.toList, by simp, h6, h7⟩⟩
        have hb : P.built t (parts.map fun (p : Nat × Operand) => (p.1, a.eval p.2)).toList = some r := by
          simp only [Program.built, hz3, hu, hz4, hie, Array.toList_map]
          exact h5
        have := run_build w t _ r hb
        simp [execOp, this]
    · trivial
  · trivial
end
end Go.AM
