/- One operation, kind by kind: the last ones; and all of them. -/
import Derived.Test.YtnjmjiajbgdnlaaA10
set_option linter.all false
namespace Go.AM
open Go Go.RowKit

section
variable {P : Program} {gt : Nat → Option (List D)} {g : G} {env : Env} {bx : List Ent} {dst : Option Tmp} {ty : TypeId} {pos : String} {after : Array Edge} {guard : Option (Nat × Bool)}

theorem ok_not {t : TypeId} {x : Operand} {x' : X} (hx : opX P t x = some x') : ResOk P gt ⟨dst, .unOp .not t x, ty, pos, after, guard⟩ (.not x') g env bx (stepF gt (.not x') g env bx) := by
  simp only [stepF]
  split
  · rename_i b he
    refine ResOk.pure ?_
    intro F K pl w a hF hi hs hg hp
    have h1 := ev_ok (K := K) (pl := pl) hx hs hg he
    simp only [Rep] at h1
    exact ⟨.bool (!b), by simp [execOp, h1, Op.unary], by simp only [Rep]⟩
  · trivial

theorem ok_neg {t : TypeId} {k : IntKind} {x : Operand} {x' : X} (hx : opX P t x = some x') : ResOk P gt ⟨dst, .unOp .neg t x, ty, pos, after, guard⟩ (.neg k x') g env bx (stepF gt (.neg k x') g env bx) := by
  simp only [stepF]
  split
  · rename_i k' n he
    split
    · rename_i hk
      have := kEq_iff.1 hk; subst this
      refine ResOk.pure ?_
      intro F K pl w a hF hi hs hg hp
      have h1 := ev_ok (K := K) (pl := pl) hx hs hg he
      have h2 : fits k (-n) := hp _ (List.mem_singleton.2 rfl)
      simp only [Rep] at h1
      exact ⟨.int k (-n), by simp [execOp, h1, Op.unary, Op.intArith, wrap_fits h2], by simp only [Rep]⟩
    · trivial
  · trivial

theorem ok_conv {s d : TypeId} {k' k : IntKind} {x : Operand} {x' : X} (hs0 : intKind P s = some k') (hd0 : intKind P d = some k) (hx : opX P s x = some x') : ResOk P gt ⟨dst, .convert s d x, ty, pos, after, guard⟩ (.conv k x') g env bx (stepF gt (.conv k x') g env bx) := by
  simp only [stepF]
  split
  · rename_i k'' n he
    refine ResOk.pure ?_
    intro F K pl w a hF hi hs hg hp
    have h1 := ev_ok (K := K) (pl := pl) hx hs hg he
    have h2 : fits k n := hp _ (List.mem_singleton.2 rfl)
    simp only [Rep] at h1
    have hu : P.underlying d = some (.int k) := by
      unfold intKind at hd0
      split at hd0
      · rename_i hh; cases hd0; exact hh
      · cases hd0
    have hu' : P.underlying s = some (.int k') := by
      unfold intKind at hs0
      split at hs0
      · rename_i hh; cases hs0; exact hh
      · cases hs0
    exact ⟨.int k n, by simp [execOp, h1, convert, Sem.run_bind, run_underlying hu, run_underlying hu', Conv.intToInt, wrap_fits h2], by simp only [Rep]⟩
  · trivial

theorem run_resolve_builtin (b : Builtin) (args : Array Operand) (ts : Array TypeId) (t : TypeId) (ρ : Operand → Value) (w : World) :
    (resolve ρ { callee := .builtin b, args := args, argTypes := ts } t).run P w = .ok { target := .builtin b ts t (args.map fun | .const _ => true | _ => false), args := args.map ρ } w := by
  simp [resolve]
  intro a _; cases a <;> rfl

theorem run_lift {s : Sem Value} {w w' : World} {v : Value} (h : s.run P w = .ok v w') : (s >>= fun x => (pure (Next.value x) : Sem Next)).run P w = .ok (.value v) w' := by
  rw [Sem.run_bind, h]; rfl

theorem run_builtin_op {b : Builtin} {args : Array Operand} {ts : Array TypeId} {a : Act} {w w' : World} {v : Value} {cs : Array Bool} {S : Sem Next}
    (hS : ∀ cs, builtin b ts ty cs (args.map a.eval) = S) (hv : S.run P w = .ok (.value v) w') :
    (execOp a.eval ⟨dst, .call { callee := .builtin b, args := args, argTypes := ts }, ty, pos, after, guard⟩).run P w = .ok (.value v) w' := by
  simp only [execOp, Sem.run_bind, run_resolve_builtin, Result.andThen_ok, invoke, hS, hv]

theorem ok_len {str : Bool} {t : TypeId} {x : Operand} {x' : X} (hu : if str then P.underlying t = some .string else ∃ e, P.underlying t = some (.slice e)) (hx : opX P t x = some x') :
    ResOk P gt ⟨dst, .call { callee := .builtin .len, args := #[x], argTypes := #[t] }, ty, pos, after, guard⟩ (.len str x') g env bx (stepF gt (.len str x') g env bx) := by
  simp only [stepF]
  cases he : evX env g x' with
  | none => simp [stepLen, ResOk]
  | some d =>
    cases d <;> cases str <;> try (simp [stepLen, ResOk]; done)
    case str.true s =>
      simp only [stepLen]
      refine ResOk.pure ?_
      intro F K pl w a hF hi hs hg hp
      have h1 := ev_ok (K := K) (pl := pl) hx hs hg he
      simp only [Rep] at h1
      simp at hu
      refine ⟨.int .i64 s.length, run_builtin_op (cs := #[]) (fun cs => rfl) ?_, by simp only [Rep]⟩
      have hl : (Builtin.len_ #[t] ty #[a.eval x]).run P w = .ok (.int .i64 s.length) w := by
        have hz : (⟨s.toArray⟩ : ByteArray).size = s.length := rfl
        simp [Builtin.len_, h1, Sem.run_bind, run_underlying hu, goInt, hz]
      simp only [List.map_toArray, List.map_cons, List.map_nil]; exact run_lift hl
    case ls.false sz l =>
      simp only [stepLen]
      refine ResOk.pure ?_
      intro F K pl w a hF hi hs hg hp
      have h1 := ev_ok (K := K) (pl := pl) hx hs hg he
      simp only [Rep] at h1
      obtain ⟨a', n, c, h2, h3, _, _⟩ := h1
      simp at hu
      obtain ⟨e, hu⟩ := hu
      refine ⟨.int .i64 l.length, run_builtin_op (cs := #[]) (fun cs => rfl) ?_, by simp only [Rep]⟩
      have hl : (Builtin.len_ #[t] ty #[a.eval x]).run P w = .ok (.int .i64 l.length) w := by simp [Builtin.len_, h2, h3, Sem.run_bind, run_underlying hu, goInt]
      simp only [List.map_toArray, List.map_cons, List.map_nil]; exact run_lift hl
    case bsl.false k base sz n =>
      simp only [stepLen]
      refine ResOk.pure ?_
      intro F K pl w a hF hi hs hg hp
      have h1 := ev_ok (K := K) (pl := pl) hx hs hg he
      simp only [Rep] at h1
      obtain ⟨b, o, c, h2, h3, _⟩ := h1
      simp at hu
      obtain ⟨e, hu⟩ := hu
      refine ⟨.int .i64 n, run_builtin_op (cs := #[]) (fun cs => rfl) ?_, by simp only [Rep]⟩
      have hl : (Builtin.len_ #[t] ty #[a.eval x]).run P w = .ok (.int .i64 n) w := by simp [Builtin.len_, h3, Sem.run_bind, run_underlying hu, goInt]
      simp only [List.map_toArray, List.map_cons, List.map_nil]; exact run_lift hl
    case own.false k ver =>
      simp only [stepLen]
      split
      · rename_i ety sz ver' rows hk
        rw [entN_eq] at hk
        refine ResOk.pure ?_
        intro F K pl w a hF hi hs hg hp
        have h1 := ev_ok (K := K) (pl := pl) hx hs hg he
        simp only [Rep] at h1
        have hver : ver = ver' := hp _ (List.mem_singleton.2 rfl)
        subst hver
        obtain ⟨v, vs, h5, h6, _⟩ := hi.tab.ok k _ hk
        rw [h1.1] at h5; cases h5
        simp at hu
        obtain ⟨e, hu⟩ := hu
        refine ⟨.int .i64 rows.length, run_builtin_op (cs := #[]) (fun cs => rfl) ?_, by simp only [Rep]⟩
        have hl : (Builtin.len_ #[t] ty #[a.eval x]).run P w = .ok (.int .i64 rows.length) w := by
          rcases h6.2 with ⟨h9, h10⟩ | ⟨gb, cap, cur, h9, h10, h11, _⟩
          · simp [Builtin.len_, h9, h10, Sem.run_bind, run_underlying hu, goInt]
          · simp [Builtin.len_, h9, Sem.run_bind, run_underlying hu, goInt]
        simp only [List.map_toArray, List.map_cons, List.map_nil]; exact run_lift hl
      · trivial

theorem ok_mx {t u : TypeId} {x y : Operand} {x' y' : X} (hx : opX P t x = some x') (hy : opX P u y = some y') :
    ResOk P gt ⟨dst, .call { callee := .builtin .max, args := #[x, y], argTypes := #[t, u] }, ty, pos, after, guard⟩ (.mx x' y') g env bx (stepF gt (.mx x' y') g env bx) := by
  simp only [stepF]
  split
  · rename_i k m k' n hd he
    refine ResOk.pure ?_
    intro F K pl w a hF hi hs hg hp
    have h1 := ev_ok (K := K) (pl := pl) hx (fun s hs' => hs s (xslL hs')) hg hd
    have h2 := ev_ok (K := K) (pl := pl) hy (fun s hs' => hs s (xslR hs')) hg he
    simp only [Rep] at h1 h2
    refine ⟨.int k (max m n), run_builtin_op (cs := #[]) (fun cs => rfl) ?_, by simp only [Rep]⟩
    have : (if n > m then n else m) = max m n := by omega
    have hl : (Builtin.max_ #[t, u] ty #[a.eval x, a.eval y]).run P w = .ok (.int k (max m n)) w := by simp [Builtin.max_, Builtin.max2, h1, h2, this]
    simp only [List.map_toArray, List.map_cons, List.map_nil]; exact run_lift hl
  · trivial

theorem ok_mn {t u : TypeId} {x y : Operand} {x' y' : X} (hx : opX P t x = some x') (hy : opX P u y = some y') :
    ResOk P gt ⟨dst, .call { callee := .builtin .min, args := #[x, y], argTypes := #[t, u] }, ty, pos, after, guard⟩ (.mn x' y') g env bx (stepF gt (.mn x' y') g env bx) := by
  simp only [stepF]
  split
  · rename_i k m k' n hd he
    refine ResOk.pure ?_
    intro F K pl w a hF hi hs hg hp
    have h1 := ev_ok (K := K) (pl := pl) hx (fun s hs' => hs s (xslL hs')) hg hd
    have h2 := ev_ok (K := K) (pl := pl) hy (fun s hs' => hs s (xslR hs')) hg he
    simp only [Rep] at h1 h2
    refine ⟨.int k (min m n), run_builtin_op (cs := #[]) (fun cs => rfl) ?_, by simp only [Rep]⟩
    have : (if n < m then n else m) = min m n := by omega
    have hl : (Builtin.min_ #[t, u] ty #[a.eval x, a.eval y]).run P w = .ok (.int k (min m n)) w := by simp [Builtin.min_, Builtin.min2, h1, h2, this]
    simp only [List.map_toArray, List.map_cons, List.map_nil]; exact run_lift hl
  · trivial

theorem ok_ext {x : Operand} {x' : X} {i : Nat} (hx : opX P 0 x = some x') : ResOk P gt ⟨dst, .extract x i, ty, pos, after, guard⟩ (.ext x' i) g env bx (stepF gt (.ext x' i) g env bx) := by
  simp only [stepF]
  split
  · rename_i l he
    split
    · rename_i d hd
      refine ResOk.pure ?_
      intro F K pl w a hF hi hs hg hp
      have h1 := ev_ok (K := K) (pl := pl) hx hs hg he
      simp only [Rep] at h1
      obtain ⟨cs, h2, h3⟩ := h1
      rw [nth_eq] at hd
      obtain ⟨v, h4, h5⟩ := h3.get i hd
      exact ⟨v, by simp [execOp, Instr.extract, h2, h4], h5⟩
    · trivial
  · trivial

theorem ok_bld {t : TypeId} {parts : Array (Nat × Operand)} {z : List D} {parts' : List (Nat × Option Nat × X)} (hz : zeroOf P t = some z)
    (hp : (∃ fs : Array Field, P.underlying t = some (.struct fs) ∧ compParts P (fun i => fs[i]?.map fun f => (f.offset, f.type)) parts.toList = some parts' ∧ ∀ (i : Nat) (f : Field), fs[i]? = some f → (szOf P f.type).isSome = true) ∨
      (∃ n e s, P.underlying t = some (.array n e) ∧ szOf P e = some s ∧ compParts P (fun i => some (i * s, e)) parts.toList = some parts')) :
    ResOk P gt ⟨dst, .build t parts, ty, pos, after, guard⟩ (.bld z parts') g env bx (stepF gt (.bld z parts') g env bx) := by
  simp only [stepF]
  split
  · rename_i ds hds
    split
    · rename_i l hl
      refine ResOk.pure ?_
      intro F K pl w a hF hi hs hg hq
      obtain ⟨zv, hz1, hz2, inf, hz3, hz4⟩ := run_zero hz w
      obtain ⟨h3, h4⟩ := repsB_ok K pl hz2
      rcases hp with ⟨fs, hu, hc, hsz⟩ | ⟨n, e, s, hu, hsz, hc⟩
      · obtain ⟨places, hpl, hpl2⟩ : ∃ places : List (Nat × Nat), (fs.toList.mapM fun f => (P.info? f.type).map fun i => (f.offset, i.size)) = some places ∧ ∀ (i off : Nat) (t' : TypeId) (n' : Nat), (fs[i]?.map fun (f : Field) => (f.offset, f.type)) = some (off, t') → szOf P t' = some n' → places[i]? = some (off, n') := by
          have gen : ∀ (l : List Field), (∀ (i : Nat) (f : Field), l[i]? = some f → (szOf P f.type).isSome = true) → ∃ places : List (Nat × Nat), (l.mapM fun f => (P.info? f.type).map fun i => (f.offset, i.size)) = some places ∧ ∀ (i off : Nat) (t' : TypeId) (n' : Nat), (l[i]?.map fun (f : Field) => (f.offset, f.type)) = some (off, t') → szOf P t' = some n' → places[i]? = some (off, n') := by
            intro l
            induction l with
            | nil => intro _; exact ⟨[], rfl, fun i off t' n' h => by simp at h⟩
            | cons f l ih =>
              intro hall
              obtain ⟨pl', h5, h6⟩ := ih (fun i f' hf' => hall (i + 1) f' (by simpa using hf'))
              have := hall 0 f (by simp)
              cases hi' : P.info? f.type with
              | none => simp [szOf, hi'] at this
              | some inf =>
                refine ⟨(f.offset, inf.size) :: pl', by simp [List.mapM_cons, hi', h5], fun i off t' n' h7 h8 => ?_⟩
                cases i with
                | zero =>
                  simp at h7
                  obtain ⟨rfl, rfl⟩ := h7
                  simp [szOf, hi'] at h8
                  simp [h8]
                | succ i => simp at h7 ⊢; exact h6 i off t' n' (by simpa using h7) h8
          obtain ⟨places, h5, h6⟩ := gen fs.toList (fun i f hf => hsz i f (by simpa using hf))
          exact ⟨places, h5, fun i off t' n' h7 h8 => h6 i off t' n' (by simpa using h7) h8⟩
        obtain ⟨r, h5, h6, h7⟩ := fill_parts (K := K) (pl := pl) (a := a) (place := fun i => places[i]?) hpl2 hg parts.toList parts' z l zv.cells ds hc hs hds h3 h4 hl
        refine ⟨.agg r, ?_, by simp only [Rep]; exact ⟨r.toList, by simp, h6, h7⟩⟩
        have hb : P.built t (parts.map fun (p : Nat × Operand) => (p.1, a.eval p.2)).toList = some r := by
          simp only [Program.built, hz3, hu, hz4, hpl, List.getElem?_toArray, Array.toList_map]
          exact h5
        have := run_build w t _ r hb
        simp [execOp, this]
      · obtain ⟨ie, hie, hie2⟩ : ∃ ie, P.info? e = some ie ∧ ie.size = s := by
          cases hi' : P.info? e with
          | none => simp [szOf, hi'] at hsz
          | some ie => simp [szOf, hi'] at hsz; exact ⟨ie, rfl, hsz⟩
        subst hie2
        obtain ⟨r, h5, h6, h7⟩ := fill_parts (K := K) (pl := pl) (a := a) (place := fun i => some (i * ie.size, ie.size)) (fun i off t' n' h7 h8 => by
          simp at h7
          obtain ⟨rfl, rfl⟩ := h7
          rw [hsz] at h8; cases h8; rfl) hg parts.toList parts' z l zv.cells ds hc hs hds h3 h4 hl
        refine ⟨.agg r, ?_, by simp only [Rep]; exact ⟨r.toList, by simp, h6, h7⟩⟩
        have hb : P.built t (parts.map fun (p : Nat × Operand) => (p.1, a.eval p.2)).toList = some r := by
          simp only [Program.built, hz3, hu, hz4, hie, Array.toList_map]
          exact h5
        have := run_build w t _ r hb
        simp [execOp, this]
    · trivial
  · trivial

theorem ok_chk {x : Operand} {x' : X} (hx : opX P 0 x = some x') : ResOk P gt ⟨dst, .nilCheck x, ty, pos, after, guard⟩ (.chk x') g env bx (stepF gt (.chk x') g env bx) := by
  simp only [stepF]
  split
  · rename_i d he
    split
    · rename_i hp'
      refine ResOk.pure ?_
      intro F K pl w a hF hi hs hg hp
      have h1 := ev_ok (K := K) (pl := pl) hx hs hg he
      refine ⟨a.eval x, ?_, h1⟩
      cases d <;> simp only [isPtr, Bool.false_eq_true] at hp' <;> simp only [Rep] at h1
      · obtain ⟨cs, h, _⟩ := h1; simp [execOp, h]
      · obtain ⟨b, _, h⟩ := h1; simp [execOp, h]
      · obtain ⟨b, _, h⟩ := h1; simp [execOp, h]
      · obtain ⟨b, o, vs, h, _⟩ := h1; simp [execOp, h]
      · obtain ⟨b, n, c, _, h⟩ := h1; simp [execOp, h]
      · simp [execOp, h1]
    · trivial
  · trivial

theorem push_bytes : ∀ (bs : List UInt8) (r : ByteArray), ((bs.map fun b : UInt8 => (b.toNat : Int)).foldl (fun r n => r.push (UInt8.ofNat n.toNat)) r).data.toList = r.data.toList ++ bs
  | [], r => by simp
  | b :: bs, r => by
    simp only [List.map_cons, List.foldl_cons]
    rw [push_bytes bs]
    simp [ByteArray.push]

theorem run_b2s {s d e : TypeId} (hs0 : P.underlying s = some (.slice e)) (he : P.underlying e = some (.int .u8)) (hd0 : P.underlying d = some .string) {w : World} {ad : Option Addr} {n c : Nat} {bs : List UInt8} (hn : n = bs.length)
    (hcell : ∀ a', ad = some a' → ∀ j u, (bs.map fun b : UInt8 => Value.int .u8 b.toNat)[j]? = some u → w.cell? (a'.add j) = some u) (hnil : ad = none → bs = []) :
    (convert s d (.slice ad n c)).run P w = .ok (.string ⟨bs.toArray⟩) w := by
  have hconv : (convert s d (.slice ad n c)).run P w = (Conv.bytesToString (.slice ad n c)).run P w := by
    simp [convert, Sem.run_bind, run_underlying hs0, run_underlying hd0, run_underlying he]
  rw [hconv]
  cases ad with
  | none =>
    have := hnil rfl; subst this
    simp [Conv.bytesToString]
    rfl
  | some a' =>
    have hl := run_loadCells_list (P := P) w a' (bs.map fun b : UInt8 => Value.int .u8 b.toNat) (hcell a' rfl)
    have hb := run_bytesToString (P := P) w a' n c (bs.map fun b : UInt8 => (b.toNat : Int)) (by rw [hn]; simpa [Function.comp_def] using hl)
    rw [hb]
    congr 2
    apply ByteArray.ext
    apply Array.ext'
    rw [push_bytes]; rfl

theorem bytes_rep {K : Kn} {pl : Pl} : ∀ {bs : List UInt8} {vs : List Value}, RepL K pl (bytesD bs) vs → vs = bs.map fun b : UInt8 => Value.int .u8 b.toNat
  | [], vs, h => by simpa [bytesD, RepL] using h
  | b :: bs, vs, h => by
    simp only [bytesD, List.map_cons, RepL, Rep] at h
    obtain ⟨v, r, rfl, rfl, h⟩ := h
    simp [bytes_rep (bs := bs) h]

theorem flat_bytes (bs : List UInt8) : flat (bs.map fun b : UInt8 => Value.int .u8 b.toNat) = bs.map fun b : UInt8 => Value.int .u8 b.toNat := by
  induction bs with
  | nil => rfl
  | cons b bs ih => simp only [flat, List.map_cons, List.flatMap_cons] at ih ⊢; rw [ih]; rfl

theorem ok_b2s {s d e : TypeId} {x : Operand} {x' : X} (hs0 : P.underlying s = some (.slice e)) (he : P.underlying e = some (.int .u8)) (hd0 : P.underlying d = some .string) (hx : opX P s x = some x') :
    ResOk P gt ⟨dst, .convert s d x, ty, pos, after, guard⟩ (.b2s x') g env bx (stepF gt (.b2s x') g env bx) := by
  simp only [stepF]
  split
  · rename_i sz l hev
    intro F K pl w a hF hi hs hg hp d' hd'
    have h1 := ev_ok (K := K) (pl := pl) hx hs hg hev
    have hsz : sz = 1 := hp _ (List.mem_singleton.2 rfl)
    obtain ⟨bs, rfl, rfl⟩ := hd'
    simp only [Rep] at h1
    obtain ⟨ad, n, c, h2, h3, _, h4, h5⟩ := h1
    refine ⟨.string ⟨bs.toArray⟩, ?_, by simp only [Rep]⟩
    have hrun := run_b2s (P := P) (w := w) hs0 he hd0 (ad := ad) (n := n) (c := c) (bs := bs) (by rw [h3]; simp [bytesD]) (fun a' ha' j u hj => ?_) (fun hn => ?_)
    · simp [execOp, h2, hrun]
    · rcases h5 with h5 | ⟨b, off, vs, h6, h7, cs, T, fz, h8, h9, h10⟩
      · simp [bytesD] at h5; subst h5; simp at hj
      · rw [h6] at ha'; cases ha'
        rw [Addr.add_mid]
        have := bytes_rep h7
        subst this
        rw [flat_bytes] at h10
        exact range_of_prefix (hi.mod _ _ h8) h10 j u hj
    · rcases h5 with h5 | ⟨b, off, vs, h6, _⟩
      · simpa [bytesD] using h5
      · rw [hn] at h6; cases h6
  · rename_i k ver hev
    split
    · rename_i e' sz ver' l hk
      rw [entN_eq] at hk
      intro F K pl w a hF hi hs hg hp d' hd'
      have h1 := ev_ok (K := K) (pl := pl) hx hs hg hev
      obtain ⟨hsz, hver⟩ := hp _ (List.mem_singleton.2 rfl)
      subst hsz; subst hver
      obtain ⟨bs, rfl, rfl⟩ := hd'
      simp only [Rep] at h1
      obtain ⟨v, vs, h3, h4, h5, h6, h7, h8⟩ := hi.tab.ok k _ hk
      rw [h1.1] at h3; cases h3
      have := bytes_rep h5
      subst this
      refine ⟨.string ⟨bs.toArray⟩, ?_, by simp only [Rep]⟩
      have hbl : (bytesD bs).length = bs.length := by simp [bytesD]
      rcases h4.2 with ⟨h9, h10⟩ | ⟨g', cap, cur, h9, h10, h11, h12, h13, h14, h15⟩
      · have hbs : bs = [] := List.eq_nil_of_length_eq_zero (by omega)
        subst hbs
        have hrun := run_b2s (P := P) (w := w) hs0 he hd0 (ad := none) (n := 0) (c := 0) (bs := []) rfl nofun (fun _ => rfl)
        simp [execOp, h9, hrun]
      · have hrun := run_b2s (P := P) (w := w) hs0 he hd0 (ad := some ⟨g', 0, none⟩) (n := (bytesD bs).length) (c := cap) (bs := bs) hbl (fun a' ha' j u hj => ?_) nofun
        · simp [execOp, h9, hrun]
        · cases ha'
          rw [Addr.add_mid]
          rw [flat_bytes] at h15
          exact range_of_prefix (o := 0) h11 (by rw [List.drop_zero, ← h15]; exact List.take_prefix _ _) j u hj
    · trivial
  · trivial

theorem evB_ok {F : Fr} {K : Kn} {pl : Pl} {a : Act} {w : World} {lo : Option Operand} {lo' : Option X} {dflt r : Int} (hx : opXo P lo = some lo') (hs : ∀ s ∈ xslo lo', SlotOk K pl env a s) (hg : holds a g) (he : evB env g dflt lo' = some r) :
    (lo = none ∧ r = dflt) ∨ ∃ x k, lo = some x ∧ a.eval x = .int k r := by
  unfold opXo at hx
  split at hx
  · cases hx; simp [evB] at he; exact .inl ⟨rfl, he.symm⟩
  · rename_i x
    split at hx
    · rename_i x' hxx
      cases hx
      simp only [evB] at he
      split at he
      · rename_i k n hd
        cases he
        have := ev_ok (K := K) (pl := pl) hxx hs hg hd
        simp only [Rep] at this
        exact .inr ⟨x, k, rfl, this⟩
      · cases he
    · cases hx

theorem run_bounds {isSlice : Bool} {len cap : Nat} {lo hi : Option Operand} {a : Act} {l h : Int} (hlo : (lo = none ∧ l = 0) ∨ ∃ x k, lo = some x ∧ a.eval x = .int k l) (hhi : (hi = none ∧ h = len) ∨ ∃ x k, hi = some x ∧ a.eval x = .int k h)
    (h0 : 0 ≤ l) (h1 : l ≤ h) (h2 : h ≤ len) (hc : len ≤ cap) (w : World) :
    (Instr.sliceBounds isSlice len cap (lo.map a.eval) (hi.map a.eval) none).run P w = .ok (l.toNat, h.toNat, cap) w := by
  have h3 : (h : Int) ≤ cap := by omega
  have hl : ∀ v, v = l → (∀ k, (Instr.sliceBound (.int k v) h.toNat .sliceB).run P w = .ok l.toNat w) := fun v hv k => by
    subst hv
    have : ¬ max h 0 < v := by omega
    simp [Instr.sliceBound, asIntOf, Sem.run_bind, h0, this]
  have hh : ∀ k code, (Instr.sliceBound (.int k h) cap code).run P w = .ok h.toNat w := fun k code => by
    have : 0 ≤ h := by omega
    simp [Instr.sliceBound, asIntOf, Sem.run_bind, h3, this]
  rcases hhi with ⟨rfl, rfl⟩ | ⟨x, k, rfl, hx⟩ <;> rcases hlo with ⟨rfl, rfl⟩ | ⟨y, k', rfl, hy⟩
  · simp [Instr.sliceBounds]
  · have := hl l rfl k'
    simp at this
    simp [Instr.sliceBounds, hy, Sem.run_bind, this]
  · simp [Instr.sliceBounds, hx, Sem.run_bind, hh]
  · simp [Instr.sliceBounds, hx, hy, Sem.run_bind, hh, hl l rfl k']

theorem ok_sst {t : TypeId} {x : Operand} {lo hi : Option Operand} {x' : X} {lo' hi' : Option X} (hu : P.underlying t = some .string) (hx : opX P t x = some x') (hl : opXo P lo = some lo') (hh : opXo P hi = some hi') :
    ResOk P gt ⟨dst, .slice t x lo hi none, ty, pos, after, guard⟩ (.sst x' lo' hi') g env bx (stepF gt (.sst x' lo' hi') g env bx) := by
  simp only [stepF]
  cases he : evX env g x' with
  | none => simp [stepSst, ResOk]
  | some d0 =>
    cases d0 <;> try (simp [stepSst, ResOk]; done)
    rename_i s
    simp only [stepSst]
    split
    · rename_i l h hl' hh'
      refine ResOk.pure ?_
      intro F K pl w a hF hi' hs hg hp
      obtain ⟨h0, h1, h2⟩ := hp _ (List.mem_singleton.2 rfl)
      have hv := ev_ok (K := K) (pl := pl) hx (fun s h' => hs s (by simp [msl, h'])) hg he
      simp only [Rep] at hv
      have hlo := evB_ok (F := F) (w := w) (K := K) (pl := pl) (a := a) hl (fun s h' => hs s (by simp [msl, h'])) hg hl'
      have hhi := evB_ok (F := F) (w := w) (K := K) (pl := pl) (a := a) hh (fun s h' => hs s (by simp [msl, h'])) hg hh'
      have hsz : (⟨s.toArray⟩ : ByteArray).size = s.length := by simp [ByteArray.size]
      have hrun := run_bounds (P := P) (isSlice := false) (cap := s.length) hlo hhi h0 h1 h2 (Nat.le_refl _) w
      refine ⟨.string ⟨((s.take h.toNat).drop l.toNat).toArray⟩, ?_, by simp only [Rep]⟩
      have hext : (⟨s.toArray⟩ : ByteArray).extract l.toNat h.toNat = ⟨((s.take h.toNat).drop l.toNat).toArray⟩ := by
        apply ByteArray.ext
        rw [ByteArray.data_extract]
        simp [List.drop_take]
      simp [execOp, Instr.sliceAt, Instr.slice, hv, Sem.run_bind, run_underlying hu, hsz, hrun, hext]
    · trivial
end
end Go.AM
