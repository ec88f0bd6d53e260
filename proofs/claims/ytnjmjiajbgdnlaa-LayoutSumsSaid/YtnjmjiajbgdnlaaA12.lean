/- Row literals, calls, what is made. -/
import Derived.Test.YtnjmjiajbgdnlaaA11
import Derived.Laws.MakeOwn
set_option linter.all false
namespace Go.AM
open Go Go.RowKit

theorem rowsOf_sized {K : Kn} {pl : Pl} {n : Option Nat} {s : Nat} (hs : n.getD 1 = s) : ∀ {l : List D} {vs : List Value}, RepL K pl l vs → rowsOf n l = true → sized s vs
  | [], vs, h, _ => by simp [RepL] at h; subst h; exact fun v hv => by cases hv
  | d :: l, vs, h, hr => by
    simp only [RepL] at h
    obtain ⟨v, r, rfl, h1, h2⟩ := h
    simp only [rowsOf] at hr
    split at hr
    · rename_i c hc
      obtain ⟨h5, h6, h7, h8⟩ := h1.cells hc
      have hlen := h5.length
      intro u hu
      rcases List.mem_cons.1 hu with rfl | hu
      · refine ⟨?_, h6⟩
        cases n with
        | none => rw [(h8 rfl).1]; simpa using hs
        | some m => have := (h7 m rfl).1; simp at hlen hs; omega
      · exact rowsOf_sized hs h2 hr u hu
    · cases hr

/-- What is known while own rows are lent. -/
noncomputable def lendK (K : Kn) (pl : Pl) (bx : List Ent) (w : World) : Kn := fun b =>
  match K b with
  | some o => some o
  | none => open Classical in if ∃ k e sz ver rows, bx[k]? = some (.arr e sz ver rows) ∧ entBlk pl k (.arr e sz ver rows) = some b then w.heap[b]? else none

theorem lendK_le (K : Kn) (pl : Pl) (bx : List Ent) (w : World) : KLe K (lendK K pl bx w) := fun b o h => by simp [lendK, h]
theorem lendK_mod {K : Kn} {pl : Pl} {bx : List Ent} {w : World} (h : ∀ b o, K b = some o → w.heap[b]? = some o) : ∀ b o, lendK K pl bx w b = some o → w.heap[b]? = some o := fun b o hb => by
  unfold lendK at hb
  split at hb
  · rename_i o' ho; cases hb; exact h b o ho
  · split at hb
    · exact hb
    · cases hb

section
variable {K : Kn} {pl : Pl} {bx : List Ent} {w : World}

theorem lend_own (hi : Tab K pl w bx) {k ver : Nat} {e : TypeId} {sz : Nat} {rows : List D} (hk : bx[k]? = some (.arr e sz ver rows)) {v : Value} (hv : pl k ver = some v) : Rep (lendK K pl bx w) pl0 (.ls sz rows) v := by
  obtain ⟨v', vs, h1, h2, h3, h4, h5, h6⟩ := hi.ok k _ hk
  rw [hv] at h1; cases h1
  simp only [Rep]
  rcases h2.2 with ⟨rfl, h7⟩ | ⟨g, cap, cur, rfl, h7, h8, h9, h10, h11, h12⟩
  · exact ⟨none, 0, 0, rfl, h7.symm, Nat.le_refl _, fun _ => rfl, .inl (List.eq_nil_of_length_eq_zero h7)⟩
  · refine ⟨_, _, _, rfl, rfl, h9, nofun, .inr ⟨g, 0, vs, rfl, RepL.mono (lendK_le _ _ _ _) (PLe.refl _) _ _ h3, cur, e, (0, 0), ?_, h4, ?_⟩⟩
    · have hb : entBlk pl k (.arr e sz ver rows) = some g := by simp [entBlk, hv, blkV]
      have := (hi.lt hk hb).2
      unfold lendK
      rw [this]
      simp only
      rw [if_pos ⟨k, e, sz, ver, rows, hk, hb⟩]
      exact h8
    · rw [List.drop_zero, ← h12]; exact List.take_prefix _ _

mutual
theorem lend_ok (hi : Tab K pl w bx) : ∀ (d : D) (q : List Prop) (o : Bool) (d' : D) (v : Value), lend bx d = some (q, o, d') → (∀ p ∈ q, p) → Rep K pl d v → Rep (lendK K pl bx w) pl0 d' v ∧ (o = false → Rep K pl0 d' v)
  | .int k n, q, o, d', v, h, _, hr => by
    simp [lend] at h; obtain ⟨rfl, rfl, rfl⟩ := h
    simp only [Rep] at hr ⊢; exact ⟨hr, fun _ => hr⟩
  | .bool b, q, o, d', v, h, _, hr => by
    simp [lend] at h; obtain ⟨rfl, rfl, rfl⟩ := h
    simp only [Rep] at hr ⊢; exact ⟨hr, fun _ => hr⟩
  | .str s, q, o, d', v, h, _, hr => by
    simp [lend] at h; obtain ⟨rfl, rfl, rfl⟩ := h
    simp only [Rep] at hr ⊢; exact ⟨hr, fun _ => hr⟩
  | .ls sz l, q, o, d', v, h, _, hr => by
    simp [lend] at h; obtain ⟨rfl, rfl, rfl⟩ := h
    have h1 := closed_rep (.ls sz l) v rfl hr
    exact ⟨Rep.mono (lendK_le _ _ _ _) (PLe.refl _) _ _ h1, fun _ => h1⟩
  | .mp ks vs, q, o, d', v, h, _, hr => by
    simp [lend] at h; obtain ⟨rfl, rfl, rfl⟩ := h
    have h1 := closed_rep (.mp ks vs) v rfl hr
    exact ⟨Rep.mono (lendK_le _ _ _ _) (PLe.refl _) _ _ h1, fun _ => h1⟩
  | .nil, q, o, d', v, h, _, hr => by
    simp [lend] at h; obtain ⟨rfl, rfl, rfl⟩ := h
    simp only [Rep] at hr ⊢; exact ⟨hr, fun _ => hr⟩
  | .glob gl off, q, o, d', v, h, _, hr => by
    simp [lend] at h; obtain ⟨rfl, rfl, rfl⟩ := h
    simp only [Rep] at hr ⊢; exact ⟨hr, fun _ => hr⟩
  | .fn f l, q, o, d', v, h, hq, hr => by
    simp only [lend] at h
    split at h
    · rename_i p o' l' hl
      simp at h; obtain ⟨rfl, rfl, rfl⟩ := h
      simp only [Rep] at hr ⊢
      obtain ⟨cs, h1, h2⟩ := hr
      obtain ⟨h4, h5⟩ := lendL_ok hi l _ _ _ cs hl hq h2
      exact ⟨⟨cs, h1, h4⟩, fun ho => ⟨cs, h1, h5 ho⟩⟩
    · cases h
  | .own k ver, q, o, d', v, h, hq, hr => by
    simp only [lend] at h
    split at h
    · rename_i e sz ver' rows hk
      rw [entN_eq] at hk
      simp at h; obtain ⟨rfl, rfl, rfl⟩ := h
      have hver : ver = ver' := hq _ (by simp)
      subst hver
      simp only [Rep] at hr
      exact ⟨lend_own hi hk hr.1, nofun⟩
    · cases h
  | .agg l, q, o, d', v, h, hq, hr => by
    simp only [lend] at h
    split at h
    · rename_i p o' l' hl
      simp at h; obtain ⟨rfl, rfl, rfl⟩ := h
      simp only [Rep] at hr ⊢
      obtain ⟨cs, h1, h2, h3⟩ := hr
      obtain ⟨h4, h5⟩ := lendL_ok hi l _ _ _ cs hl hq h2
      exact ⟨⟨cs, h1, h4, h3⟩, fun ho => ⟨cs, h1, h5 ho, h3⟩⟩
    · cases h
  | .tup l, q, o, d', v, h, hq, hr => by
    simp only [lend] at h
    split at h
    · rename_i p o' l' hl
      simp at h; obtain ⟨rfl, rfl, rfl⟩ := h
      simp only [Rep] at hr ⊢
      obtain ⟨cs, h1, h2⟩ := hr
      obtain ⟨h4, h5⟩ := lendL_ok hi l _ _ _ cs hl hq h2
      exact ⟨⟨cs, h1, h4⟩, fun ho => ⟨cs, h1, h5 ho⟩⟩
    · cases h
  | .box _ _, _, _, _, _, h, _, _ => by simp [lend] at h
  | .boxi _ _, _, _, _, _, h, _, _ => by simp [lend] at h
  | .bsl _ _ _ _, _, _, _, _, h, _, _ => by simp [lend] at h
  | .ownm _ _, _, _, _, _, h, _, _ => by simp [lend] at h
  | .el _ _ _ _, _, _, _, _, h, _, _ => by simp [lend] at h
  | .elo _ _ _ _ _, _, _, _, _, h, _, _ => by simp [lend] at h
  | .any, _, _, _, _, h, _, _ => by simp [lend] at h
theorem lendL_ok (hi : Tab K pl w bx) : ∀ (l : List D) (q : List Prop) (o : Bool) (l' : List D) (vs : List Value), lendL bx l = some (q, o, l') → (∀ p ∈ q, p) → RepL K pl l vs → RepL (lendK K pl bx w) pl0 l' vs ∧ (o = false → RepL K pl0 l' vs)
  | [], q, o, l', vs, h, _, hr => by
    simp [lendL] at h; obtain ⟨rfl, rfl, rfl⟩ := h
    simp only [RepL] at hr ⊢; exact ⟨hr, fun _ => hr⟩
  | d :: l, q, o, l', vs, h, hq, hr => by
    simp only [lendL] at h
    split at h
    · rename_i p o1 d1 hd
      split at h
      · rename_i q2 o2 l2 hl
        simp at h; obtain ⟨rfl, rfl, rfl⟩ := h
        simp only [RepL] at hr
        obtain ⟨v, r, rfl, h2, h3⟩ := hr
        obtain ⟨h4, h5⟩ := lend_ok hi d _ _ _ v hd (fun x hx => hq x (by simp [hx])) h2
        obtain ⟨h6, h7⟩ := lendL_ok hi l _ _ _ r hl (fun x hx => hq x (by simp [hx])) h3
        simp only [RepL]
        refine ⟨⟨v, r, rfl, h4, h6⟩, fun ho => ?_⟩
        cases o1 with
        | true => simp at ho
        | false => exact ⟨v, r, rfl, h5 rfl, h7 ho⟩
      · cases h
    · cases h
end
end

section
variable {P : Program} {gt : Nat → Option (List D)} {g : G} {env : Env} {bx : List Ent} {dst : Option Tmp} {ty : TypeId} {pos : String} {after : Array Edge} {guard : Option (Nat × Bool)}

theorem run_callFunc {f : Nat} (hok : okFn P f) (args : Array Value) (w : World) : (callFunc f args).run P w = .ok (.enter f args) w := by
  obtain ⟨fn, hf, hn, hb⟩ := hok
  have hbn : fn.body ≠ none := by cases h : fn.body <;> simp [h] at hb ⊢
  have hn' : fn.name ≠ "runtime.NumGoroutine" := by simpa using hn
  simp [callFunc, Sem.run_bind, run_program, hf, hn', hbn]

theorem ok_call {eff : Bool} {f : Nat} {args : Array Operand} {ts : Array TypeId} {xs : List X} (hx : opXs P args.toList ts.toList = some xs) :
    ResOk P gt ⟨dst, .call { callee := .value (.func f), args := args, argTypes := ts }, ty, pos, after, guard⟩ (.call eff f xs) g env bx (stepF gt (.call eff f xs) g env bx) := by
  have key : ∀ (g : G) (ds : List D) (eff' : Bool), evL env g xs = some ds → ResOk P gt ⟨dst, .call { callee := .value (.func f), args := args, argTypes := ts }, ty, pos, after, guard⟩ (.call eff f xs) g env bx (.call [] eff' f ds) := by
    intro g ds eff' hds F K pl w a hF hi hs hg hq hok
    have h1 := evs_ok (K := K) (pl := pl) hg hx hs hds
    refine ⟨args.map a.eval, ?_, by simpa using h1⟩
    simp [execOp, resolve, Act.eval, Deferred.ofValue, invoke, Sem.run_bind, run_callFunc hok]
  simp only [stepF]
  split
  · rename_i h; exact key _ _ _ h
  · rename_i h; exact key _ _ _ h
  · trivial

theorem ok_callv {eff : Bool} {s : Nat} {args : Array Operand} {ts : Array TypeId} {xs : List X} (hx : opXs P args.toList ts.toList = some xs) :
    ResOk P gt ⟨dst, .call { callee := .value (.tmp s), args := args, argTypes := ts }, ty, pos, after, guard⟩ (.callv eff (.t s) xs) g env bx (stepF gt (.callv eff (.t s) xs) g env bx) := by
  have key : ∀ (g : G) (f : Nat) (caps ds : List D) (eff' : Bool), evX env g (.t s) = some (.fn f caps) → evL env g xs = some ds →
      ResOk P gt ⟨dst, .call { callee := .value (.tmp s), args := args, argTypes := ts }, ty, pos, after, guard⟩ (.callv eff (.t s) xs) g env bx (.call [] eff' f (List.append ds caps)) := by
    intro g f caps ds eff' hfn hds F K pl w a hF hi hs hg hq hok
    have h1 := evs_ok (K := K) (pl := pl) hg hx (fun s' h => hs s' (List.mem_append_right _ h)) hds
    have h2 := ev_ok (P := P) (t := 0) (x := .tmp s) (K := K) (pl := pl) (a := a) rfl (fun s' h => hs s' (List.mem_append_left _ h)) hg hfn
    simp only [Rep] at h2
    obtain ⟨cs, h3, h4⟩ := h2
    refine ⟨args.map a.eval ++ cs.toArray, ?_, ?_⟩
    · simp [execOp, resolve, h3, Deferred.ofValue, invoke, Sem.run_bind, run_callFunc hok]
    · have := h1.append h4
      simpa using this
  simp only [stepF]
  split
  · rename_i h1 h2; exact key _ _ _ _ _ h1 h2
  · rename_i h1 h2; exact key _ _ _ _ _ h1 h2
  · trivial

theorem opXs_zero : ∀ {xs : List Operand} {l : List X}, opXs P xs (List.replicate xs.length 0) = some l → True := fun _ => trivial

theorem ok_clo {f : Nat} {caps : Array Operand} {xs : List X} (hx : opXs P caps.toList (List.replicate caps.size 0) = some xs) :
    ResOk P gt ⟨dst, .makeFunc (.func f) #[] caps, ty, pos, after, guard⟩ (.clo f xs) g env bx (stepF gt (.clo f xs) g env bx) := by
  simp only [stepF]
  split
  · rename_i ds hds
    refine ResOk.pure ?_
    intro F K pl w a hF hi hs hg hp
    have h1 := evs_ok (K := K) (pl := pl) hg hx hs hds
    refine ⟨.func (.func f) #[] (caps.toList.map a.eval).toArray, ?_, by simp only [Rep]; exact ⟨caps.toList.map a.eval, rfl, h1⟩⟩
    have e : caps.map a.eval = (caps.toList.map a.eval).toArray := by apply Array.ext'; simp
    simp only [execOp, Instr.makeFunc, e]
    simp
  · trivial

theorem compRows_eq {t : TypeId} {a : Act} : ∀ {n : Nat} {ps : List (Nat × Operand)} {xs : List X}, compRows P t n ps = some xs → opXs P (ps.map (·.2)) (List.replicate ps.length t) = some xs ∧ (ps.map fun p => (p.1, a.eval p.2)) = ((ps.map fun p => a.eval p.2).zipIdx n).map fun p => (p.2, p.1)
  | n, [], xs, h => by simp [compRows] at h; subst h; simp [opXs]
  | n, (i, x) :: r, xs, h => by
    simp only [compRows] at h
    split at h
    · rename_i hi
      subst hi
      split at h
      · rename_i x' l hx hl
        cases h
        obtain ⟨h1, h2⟩ := compRows_eq (a := a) hl
        exact ⟨by simp [opXs, hx, h1, List.replicate_succ], by simp [h2]⟩
      · cases h
    · cases h


theorem compRows_len {t : TypeId} : ∀ (k : Nat) (ps : List (Nat × Operand)) (xs : List X), compRows P t k ps = some xs → xs.length = ps.length
  | _, [], xs, h => by simp [compRows] at h; subst h; rfl
  | k, (i, x) :: ps, xs, h => by
    simp only [compRows] at h
    split at h
    · split at h
      · rename_i l _ hl; cases h; simp [compRows_len _ _ _ hl]
      · cases h
    · cases h

theorem run_bsl {t e : TypeId} {n s : Nat} {parts : Array (Nat × Operand)} {an : Option Nat} {xs : List X} {a : Act} (hu : P.underlying t = some (.slice e)) (hs' : szOf P e = some s) (hc : compRows P e 0 parts.toList = some xs)
    (hlen : xs.length = n) (hs0 : 0 < s) (hsmall : n * s ≤ 4096) (hz : ((P.info? e).bind (·.zero)).isSome = true) {vs : List Value} (hvs : parts.toList.map (fun p => a.eval p.2) = vs) (h5 : sized s vs) (w : World) :
    ∃ r : Array Value, (execOp a.eval ⟨dst, .buildSlice t n parts, ty, pos, after, guard⟩).run P w = .ok (.value (.slice (some ⟨w.heap.size, 0, none⟩) n n)) (w.alloc (.cells r e)) ∧ r.toList = flat vs ∧ vs.length = n := by
  obtain ⟨h1, h2⟩ := compRows_eq (a := a) hc
  have hvl : vs.length = n := by
    have := congrArg List.length h2
    have h6 := compRows_len _ _ _ hc
    rw [← hvs]; simp at h6 ⊢; omega
  obtain ⟨zv, inf, hinf, hz1⟩ : ∃ zv inf, P.info? e = some inf ∧ inf.zero = some zv := by
    cases hi' : P.info? e with
    | none => simp [hi'] at hz
    | some inf => cases hz' : inf.zero with
      | none => simp [hi', hz'] at hz
      | some zv => exact ⟨zv, inf, rfl, hz'⟩
  have hzr : (zeroValue e).run P w = .ok zv w := by simp [zeroValue, typeInfo, hinf, hz1]
  have hsr := run_sizeOf' hs' w
  let zc : Array Value := if n * s = 0 then #[] else zv.cells
  obtain ⟨r, h6, h7⟩ := fill_rows (sz := s) 0 vs 0 ((Array.range (n * s)).map (zc[· % zc.size]!)) [] h5 (by simp) (by simp) (by simp [hvl])
  have hparts : (parts.map fun (p : Nat × Operand) => (p.1, a.eval p.2)).toList = (vs.zipIdx 0).map fun p => (p.2, p.1) := by
    rw [Array.toList_map, h2, ← hvs]
  refine ⟨r, ?_, by simpa using h7, hvl⟩
  have hbig : ¬ n * s > 2 ^ 24 := by omega
  have hrun : (Instr.buildSlice t n (parts.map fun (p : Nat × Operand) => (p.1, a.eval p.2))).run P w = .ok (.slice (some ⟨w.heap.size, 0, none⟩) n n) (w.alloc (.cells r e)) := by
    have h6' : Instr.fill (fun i => some (i * s, s)) ((Array.range (n * s)).map (zc[· % zc.size]!)) (parts.map fun (p : Nat × Operand) => (p.1, a.eval p.2)).toList = some r := by rw [hparts]; exact h6
    unfold Instr.buildSlice
    by_cases hz0 : n * s = 0
    · have hzc : zc = #[] := by simp [zc, hz0]
      rw [hzc] at h6'
      have h16 : ¬ (0 > 2 ^ 24) := by omega
      simp only [hz0] at h6'
      simp only [Sem.run_bind, run_underlying hu w, Result.andThen_ok, hsr, hz0, if_neg h16, if_true, Sem.run_pure, h6']
      simp [newRow, newObj, Sem.run]
    · have hzc : zc = zv.cells := by simp [zc, hz0]
      rw [hzc] at h6'
      simp only [Sem.run_bind, run_underlying hu w, Result.andThen_ok, hsr, if_neg hbig, Sem.run_pure, if_neg hz0, hzr, h6']
      simp [newRow, newObj, Sem.run]
  simp [execOp, hrun]

theorem ok_bsl {mode : Option Bool} {t e : TypeId} {n s : Nat} {parts : Array (Nat × Operand)} {an : Option Nat} {xs : List X} (hu : P.underlying t = some (.slice e)) (hs' : szOf P e = some s) (han : aggN P e = some an) (hc : compRows P e 0 parts.toList = some xs)
    (hlen : xs.length = n) (hs0 : 0 < s) (hsmall : n * s ≤ 4096) (hz : ((P.info? e).bind (·.zero)).isSome = true) :
    ResOk P gt ⟨dst, .buildSlice t n parts, ty, pos, after, guard⟩ (.bsl mode e s an xs) g env bx (stepF gt (.bsl mode e s an xs) g env bx) := by
  have hsz : an.getD 1 = s := by have := aggN_size han; rw [hs'] at this; cases this; rfl
  have hrep : ∀ {K : Kn} {pl : Pl} {a : Act} {g : G} {ds : List D}, holds a g → (∀ s ∈ xsls xs, SlotOk K pl env a s) → evL env g xs = some ds → RepL K pl ds (parts.toList.map fun p => a.eval p.2) := fun {K pl a g ds} hg hs hds => by
    obtain ⟨h1, h2⟩ := compRows_eq (a := a) hc
    have h3 := evs_ok (K := K) (pl := pl) hg h1 hs hds
    simpa [List.map_map, Function.comp_def] using h3
  simp only [stepF]
  split
  · rename_i ds hds
    split
    · rename_i hcl
      rw [bA_iff] at hcl
      intro F K pl w a hF hi hs hg hq
      have h3 := hrep hg hs hds
      have h4 := closedL_rep _ _ hcl.1 h3
      have h5 := rowsOf_sized hsz h3 hcl.2
      obtain ⟨r, h6, h7, h8⟩ := run_bsl (dst := dst) (ty := ty) (pos := pos) (after := after) (guard := guard) (an := an) hu hs' hc hlen hs0 hsmall hz rfl h5 w
      obtain ⟨h9, h10⟩ := hi.newRow (.cells r e)
      refine ⟨_, _, _, pl, .inl h6, h9, PLe.refl _, h10, ?_⟩
      simp only [Rep]
      refine ⟨_, _, _, rfl, ?_, Nat.le_refl _, nofun, .inr ⟨w.heap.size, 0, _, rfl, RepL.mono h9 (PLe.refl _) _ _ h4, r, e, (0, 0), by simp [addK], h5, ?_⟩⟩
      · rw [← h8]; exact h4.length
      · rw [List.drop_zero, h7]; simp
    · trivial
  · rename_i ds hds
    split
    · rename_i hcl
      rw [bA_iff] at hcl
      intro F K pl w a hF hi hs hg hq
      have h3 := hrep hg hs hds
      have h4 := closedL_rep _ _ hcl.1 h3
      have h5 := rowsOf_sized hsz h3 hcl.2
      obtain ⟨r, h6, h7, h8⟩ := run_bsl (dst := dst) (ty := ty) (pos := pos) (after := after) (guard := guard) (an := an) hu hs' hc hlen hs0 hsmall hz rfl h5 w
      have hdl : ds.length = n := by rw [← h8]; exact h4.length.symm
      rw [sizeE_eq, addE_eq]
      have hp : PLe pl (updPl pl bx.length 0 (.slice (some ⟨w.heap.size, 0, none⟩) n n)) := updPl_le (hi.tab.free _ _ (Nat.le_refl _))
      have hadd := hi.add (w' := w.alloc (.cells r e)) (.slice (some ⟨w.heap.size, 0, none⟩) n n) (.arr e s 0 ds) (.inr (by simp [entBlk, updPl_self, blkV])) (Chg.alloc w _) (by
        refine ⟨_, _, updPl_self _ _ _ _, ⟨?_, .inr ⟨w.heap.size, n, r, by rw [hdl], Nat.zero_le _, heap_new w _, by rw [hdl]; exact Nat.le_refl _, ?_, ?_, ?_⟩⟩, h4, h5, ?_, fun ver' hv => ?_⟩
        · rw [flat_length h5, hdl, h8]
        · have : n ≤ n * s := Nat.le_mul_of_pos_right _ hs0
          unfold maxLen; omega
        · have := congrArg List.length h7
          rw [flat_length h5, h8] at this
          simpa using this
        · rw [h7, hdl, List.take_of_length_le]
          rw [flat_length h5, h8]; exact Nat.le_refl _
        · intro b hb
          simp [Value.ownBlock] at hb
          rw [← hb]; exact hi.fresh
        · rw [updPl_ne (.inr (by omega))]
          exact hi.tab.free _ _ (Nat.le_refl _))
      exact ⟨_, _, K, _, .inl h6, KLe.refl _, hp, hadd.2, by simp only [Rep]; exact ⟨updPl_self _ _ _ _, _, _, _, rfl⟩⟩
    · trivial
  · rename_i ds hds
    split
    · rename_i q ds' bx' hrw hfz
      intro F K pl w a hF hi hs hg hq
      have h3 := hrep hg hs hds
      have h5 := rowsOf_sized hsz h3 hrw
      obtain ⟨K1, g1, g2, g3⟩ := frzL_ok _ hfz hq hi h3
      obtain ⟨r, h6, h7, h8⟩ := run_bsl (dst := dst) (ty := ty) (pos := pos) (after := after) (guard := guard) (an := an) hu hs' hc hlen hs0 hsmall hz rfl h5 w
      obtain ⟨h9, h10⟩ := g2.newRow (.cells r e)
      refine ⟨_, _, _, pl, .inl h6, g1.trans h9, PLe.refl _, h10, ?_⟩
      simp only [Rep]
      refine ⟨_, _, _, rfl, ?_, Nat.le_refl _, nofun, .inr ⟨w.heap.size, 0, _, rfl, RepL.mono h9 (PLe.refl _) _ _ g3, r, e, (0, 0), by simp [addK], h5, ?_⟩⟩
      · rw [← h8]; exact g3.length
      · rw [List.drop_zero, h7]; simp
    · trivial
  · trivial

theorem ok_nilS {e : TypeId} {sz : Nat} (op : Op) (hop : op = .move (.const (.slice none 0 0)) ∨ op = .assign (.const (.slice none 0 0))) :
    ResOk P gt ⟨dst, op, ty, pos, after, guard⟩ (.nilS e sz) g env bx (stepF gt (.nilS e sz) g env bx) := by
  simp only [stepF]
  split
  · intro F K pl w a hF hi hs hg hq
    rw [sizeE_eq, addE_eq]
    have hp : PLe pl (updPl pl bx.length 0 (.slice none 0 0)) := updPl_le (hi.tab.free _ _ (Nat.le_refl _))
    have hadd := hi.add (w' := w) (.slice none 0 0) (.arr e sz 0 []) (.inl (by simp [entBlk, updPl_self, blkV])) (Chg.refl _ _) (by
      refine ⟨.slice none 0 0, [], updPl_self _ _ _ _, World.ownsRow_nil _ _ _ _, by simp [RepL], fun v hv => (by cases hv), by simp [Value.ownBlock], fun ver' hv => ?_⟩
      rw [updPl_ne (.inr (by omega))]
      exact hi.tab.free _ _ (Nat.le_refl _))
    refine ⟨.slice none 0 0, w, K, _, .inl ?_, KLe.refl _, hp, hadd.2, ?_⟩
    · rcases hop with rfl | rfl <;> simp [execOp, Act.eval]
    · simp only [Rep]; exact ⟨updPl_self _ _ _ _, none, 0, 0, rfl⟩
  · trivial

/-! ### What is made -/
theorem flat_made {sz : Nat} {zc : Array Value} {z : Value} (hz : z.cells = zc) (hs : zc.size = sz) (h0 : 0 < sz) (l c : Nat) (h : l ≤ c) : (madeCells zc (c * sz)).toList.take (l * sz) = flat (List.replicate l z) := by
  apply List.ext_getElem?
  intro i
  have hfl : ∀ (l i : Nat), (flat (List.replicate l z))[i]? = if i < l * sz then zc[i % sz]? else none := by
    intro l
    induction l with
    | zero => intro i; simp [flat]
    | succ l ih =>
      intro i
      have e : flat (List.replicate (l + 1) z) = z.cells.toList ++ flat (List.replicate l z) := by simp [flat, List.replicate_succ]
      rw [e, List.getElem?_append, hz]
      simp only [Array.length_toList, hs]
      split
      · rename_i hi
        rw [if_pos (by rw [Nat.add_mul]; omega), Nat.mod_eq_of_lt hi]; simp
      · rename_i hi
        rw [ih]
        have e2 : (i - sz) % sz = i % sz := by
          have : i = (i - sz) + sz := by omega
          conv => rhs; rw [this]
          simp
        rw [e2]
        by_cases h : i - sz < l * sz
        · rw [if_pos h, if_pos (by rw [Nat.add_mul]; omega)]
        · rw [if_neg h, if_neg (by rw [Nat.add_mul]; omega)]
  rw [hfl, List.getElem?_take]
  split
  · rename_i hi
    have hic : i < c * sz := Nat.lt_of_lt_of_le hi (Nat.mul_le_mul_right _ h)
    have hm : i % sz < zc.size := by rw [hs]; exact Nat.mod_lt _ h0
    simp [madeCells, hic, hs, hm]
    rw [getElem!_pos zc (i % sz) hm, Array.getElem?_eq_getElem hm]
  · rfl

theorem zRow_rep {e : TypeId} {n : Option Nat} {z : List D} {r : D} {zv : Value} (han : aggN P e = some n) (hsz : zv.cells.size = n.getD 1) (hz : repsB z zv.cells.toList = true) (hr : zRow n z = some r) (K : Kn) (pl : Pl) :
    ∃ v, Rep K pl r v ∧ v.cells = zv.cells ∧ ∀ c ∈ v.cells.toList, c.oneCell' = true := by
  obtain ⟨h3, h4⟩ := repsB_ok K pl hz
  cases n with
  | some n =>
    simp [zRow] at hr; subst hr
    exact ⟨.agg zv.cells, by simp only [Rep]; exact ⟨zv.cells.toList, by simp, h3, h4⟩, rfl, h4⟩
  | none =>
    cases z with
    | nil => simp [zRow] at hr
    | cons d z =>
      cases z with
      | cons _ _ => simp [zRow] at hr
      | nil =>
        simp [zRow] at hr; subst hr
        simp only [RepL] at h3
        obtain ⟨v, r, h5, h6, rfl⟩ := h3
        have h7 : v.cells = zv.cells := by
          apply Array.ext'
          rw [h5]
          have h8 : repB d v = true := by rw [h5] at hz; simpa [repsB] using hz
          unfold repB at h8
          split at h8 <;> first | rfl | (simp at h8)
        exact ⟨v, h6, h7, by rw [h7]; exact h4⟩

theorem ok_mks {t e : TypeId} {i : TypeInfo} {n : Option Nat} {z : List D} {l c : Operand} {l' c' : X} (ht : P.underlying t = some (.slice e)) (hi : P.info? e = some i) (hz : zeroOf P e = some z) (han : aggN P e = some n) (hsz : 0 < i.size) (hby : i.bytes ≤ 65536) (hzl : z.length = i.size)
    (hl : opX P 0 l = some l') (hc : opX P 0 c = some c') : ResOk P gt ⟨dst, .makeSlice t l c, ty, pos, after, guard⟩ (.mks e i.size n z l' c') g env bx (stepF gt (.mks e i.size n z l' c') g env bx) := by
  simp only [stepF]
  split
  · rename_i _ _ r kl a1 kc b1 hzr hel hec
    intro F K pl w a hF hI hs hg hp
    obtain ⟨h0, h1, h2⟩ := hp _ (List.mem_singleton.2 rfl)
    have hvl := ev_ok (K := K) (pl := pl) hl (fun s h => hs s (List.mem_append_left _ h)) hg hel
    have hvc := ev_ok (K := K) (pl := pl) hc (fun s h => hs s (List.mem_append_right _ h)) hg hec
    simp only [Rep] at hvl hvc
    obtain ⟨zv, _, hz2, i2, hz3, hz4⟩ := run_zero hz w
    rw [hi] at hz3; cases hz3
    have hn1 : i.size = n.getD 1 := by have := aggN_size han; simpa [szOf, hi] using this
    have hzlen : zv.cells.size = i.size := by
      have := (repsB_ok K pl0 hz2).1.length
      simp at this; omega
    have hbytes : (i.bytes : Int) * b1 ≤ 281474976710656 := by
      have h3 : (i.bytes : Int) * b1 ≤ 65536 * 4294967296 := Int.mul_le_mul (by omega) h2 (by omega) (by omega)
      omega
    have hrun := run_make (P := P) w t e i zv ht hi hz4 kl kc a1 b1 h0 h1 hbytes (by omega)
    obtain ⟨v, hv1, hv2, hv3⟩ := zRow_rep han (by rw [hzlen, hn1]) hz2 hzr K pl0
    rw [sizeE_eq, addE_eq]
    have hpl : PLe pl (updPl pl bx.length 0 (.slice (some ⟨w.heap.size, 0, none⟩) a1.toNat b1.toNat)) := updPl_le (hI.tab.free _ _ (Nat.le_refl _))
    have hle : a1.toNat ≤ b1.toNat := by omega
    have hsized : sized i.size (List.replicate a1.toNat v) := fun u hu => by
      rw [List.eq_of_mem_replicate hu, hv2]; exact ⟨hzlen, by rw [← hv2]; exact hv3⟩
    have hadd := hI.add (w' := w.alloc (.cells (madeCells zv.cells (b1.toNat * i.size)) e)) (.slice (some ⟨w.heap.size, 0, none⟩) a1.toNat b1.toNat) (.arr e i.size 0 (List.replicate a1.toNat r)) (.inr (by simp [entBlk, updPl_self, blkV])) (Chg.alloc w _) (by
      refine ⟨_, List.replicate a1.toNat v, updPl_self _ _ _ _, ⟨?_, .inr ⟨w.heap.size, b1.toNat, _, by simp, Nat.zero_le _, heap_new w _, by simpa using hle, by unfold maxLen; omega, size_madeCells _ _, ?_⟩⟩, ?_, hsized, ?_, fun ver' hv => ?_⟩
      · rw [flat_length hsized]; simp
      · simp only [List.length_replicate]
        exact flat_made hv2 hzlen hsz _ _ hle
      · generalize a1.toNat = m
        induction m with
        | zero => simp [RepL]
        | succ m ih => simp only [List.replicate_succ, RepL]; exact ⟨v, _, rfl, hv1, ih⟩
      · intro b hb
        simp [Value.ownBlock] at hb
        rw [← hb]; exact hI.fresh
      · rw [updPl_ne (.inr (by omega))]
        exact hI.tab.free _ _ (Nat.le_refl _))
    refine ⟨_, _, K, _, .inl ?_, KLe.refl _, hpl, hadd.2, by simp only [Rep]; exact ⟨updPl_self _ _ _ _, _, _, _, rfl⟩⟩
    simp [execOp, hvl, hvc, hrun]
  · trivial
end
end Go.AM
