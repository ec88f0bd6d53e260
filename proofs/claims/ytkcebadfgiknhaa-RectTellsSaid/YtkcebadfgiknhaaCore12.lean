/- Row literals, calls, appends; and any operation. -/
import Derived.Test.YtkcebadfgiknhaaCore11
set_option linter.all false
namespace Go.AM
open Go Go.RowKit

theorem rowsOf_sized {K : Kn} {pl : Pl} {n : Option Nat} {s : Nat} (hs : n.getD 1 = s) : ∀ {l : List D} {vs : List Value}, RepL K pl l vs → rowsOf n l = true → sized s vs
  | [], vs, h, _ => by simp [RepL] at h; subst h; exact fun v hv => by cases hv
  | d :: l, vs, h, hr => by
    simp only [RepL] at h
    obtain ⟨v, r, rfl, h1, h2⟩ := h
    simp only [rowsOf] at hr
    split at hr
    · rename_i c hc
      obtain ⟨h5, h6, h7, h8⟩ := h1.cells hc
      have hlen := h5.length
      intro u hu
      rcases List.mem_cons.1 hu with rfl | hu
      · refine ⟨?_, h6⟩
        cases n with
        | none => rw [(h8 rfl).1]; simpa using hs
        | some m => have := (h7 m rfl).1; simp at hlen hs; omega
      · exact rowsOf_sized hs h2 hr u hu
    · cases hr

mutual
theorem closed_rep {K : Kn} {pl : Pl} : ∀ (d : D) (v : Value), closed d = true → Rep K pl d v → Rep K pl0 d v
  | .int _ _, _, _, h => by simpa [Rep] using h
  | .bool _, _, _, h => by simpa [Rep] using h
  | .str _, _, _, h => by simpa [Rep] using h
  | .ls _ _, _, _, h => by simpa [Rep] using h
  | .agg l, v, hc, h => by
    simp only [Rep] at h ⊢
    obtain ⟨cs, h1, h2, h3⟩ := h
    exact ⟨cs, h1, closedL_rep l cs (by simpa [closed] using hc) h2, h3⟩
  | .tup l, v, hc, h => by
    simp only [Rep] at h ⊢
    obtain ⟨cs, h1, h2⟩ := h
    exact ⟨cs, h1, closedL_rep l cs (by simpa [closed] using hc) h2⟩
  | .box _ _, _, hc, _ => by simp [closed] at hc
  | .own _ _, _, hc, _ => by simp [closed] at hc
  | .el _ _ _ _, _, hc, _ => by simp [closed] at hc
  | .elo _ _ _ _ _, _, hc, _ => by simp [closed] at hc
  | .any, _, hc, _ => by simp [closed] at hc
theorem closedL_rep {K : Kn} {pl : Pl} : ∀ (l : List D) (vs : List Value), closedL l = true → RepL K pl l vs → RepL K pl0 l vs
  | [], _, _, h => by simpa [RepL] using h
  | d :: l, vs, hc, h => by
    simp only [RepL] at h ⊢
    obtain ⟨v, r, h1, h2, h3⟩ := h
    rw [closedL, bA_iff] at hc
    exact ⟨v, r, h1, closed_rep d v hc.1 h2, closedL_rep l r hc.2 h3⟩
end

/-- What is known while own rows are lent. -/
noncomputable def lendK (K : Kn) (pl : Pl) (bx : List Ent) (w : World) : Kn := fun b =>
  match K b with
  | some o => some o
  | none => open Classical in if ∃ k e sz ver rows, bx[k]? = some (.arr e sz ver rows) ∧ entBlk pl k (.arr e sz ver rows) = some b then w.heap[b]? else none

theorem lendK_le (K : Kn) (pl : Pl) (bx : List Ent) (w : World) : KLe K (lendK K pl bx w) := fun b o h => by simp [lendK, h]
theorem lendK_mod {K : Kn} {pl : Pl} {bx : List Ent} {w : World} (h : ∀ b o, K b = some o → w.heap[b]? = some o) : ∀ b o, lendK K pl bx w b = some o → w.heap[b]? = some o := fun b o hb => by
  unfold lendK at hb
  split at hb
  · rename_i o' ho; cases hb; exact h b o ho
  · split at hb
    · exact hb
    · cases hb

section
variable {B : Nat} {w0 : World} {K0 K : Kn} {pl : Pl} {bx : List Ent} {w : World}

theorem lend_own (hi : Inv B w0 K0 K pl bx w) {k ver : Nat} {e : TypeId} {sz : Nat} {rows : List D} (hk : bx[k]? = some (.arr e sz ver rows)) {v : Value} (hv : pl k ver = some v) : Rep (lendK K pl bx w) pl0 (.ls sz rows) v := by
  obtain ⟨v', vs, h1, h2, h3, h4, h5, h6⟩ := hi.tab.ok k _ hk
  rw [hv] at h1; cases h1
  simp only [Rep]
  rcases h2.2 with ⟨rfl, h7⟩ | ⟨g, cap, cur, rfl, h7, h8, h9, h10, h11, h12⟩
  · exact ⟨none, 0, 0, rfl, h7.symm, fun _ => rfl, .inl (List.eq_nil_of_length_eq_zero h7)⟩
  · refine ⟨_, _, _, rfl, rfl, nofun, .inr ⟨g, 0, vs, rfl, RepL.mono (lendK_le _ _ _ _) (PLe.refl _) _ _ h3, cur, e, (0, 0), ?_, h4, ?_⟩⟩
    · have hb : entBlk pl k (.arr e sz ver rows) = some g := by simp [entBlk, hv, blkV]
      have := (hi.tab.lt hk hb).2.2
      unfold lendK
      rw [this]
      simp only
      rw [if_pos ⟨k, e, sz, ver, rows, hk, hb⟩]
      exact h8
    · rw [List.drop_zero, ← h12]; exact List.take_prefix _ _

mutual
theorem lend_ok (hi : Inv B w0 K0 K pl bx w) : ∀ (d : D) (q : List Prop) (o : Bool) (d' : D) (v : Value), lend bx d = some (q, o, d') → (∀ p ∈ q, p) → Rep K pl d v → Rep (lendK K pl bx w) pl0 d' v ∧ (o = false → Rep K pl0 d' v)
  | .int k n, q, o, d', v, h, _, hr => by
    simp [lend] at h; obtain ⟨rfl, rfl, rfl⟩ := h
    simp only [Rep] at hr ⊢; exact ⟨hr, fun _ => hr⟩
  | .bool b, q, o, d', v, h, _, hr => by
    simp [lend] at h; obtain ⟨rfl, rfl, rfl⟩ := h
    simp only [Rep] at hr ⊢; exact ⟨hr, fun _ => hr⟩
  | .str s, q, o, d', v, h, _, hr => by
    simp [lend] at h; obtain ⟨rfl, rfl, rfl⟩ := h
    simp only [Rep] at hr ⊢; exact ⟨hr, fun _ => hr⟩
  | .ls sz l, q, o, d', v, h, _, hr => by
    simp [lend] at h; obtain ⟨rfl, rfl, rfl⟩ := h
    have h1 := closed_rep (.ls sz l) v rfl hr
    exact ⟨Rep.mono (lendK_le _ _ _ _) (PLe.refl _) _ _ h1, fun _ => h1⟩
  | .own k ver, q, o, d', v, h, hq, hr => by
    simp only [lend] at h
    split at h
    · rename_i e sz ver' rows hk
      rw [entN_eq] at hk
      simp at h; obtain ⟨rfl, rfl, rfl⟩ := h
      have hver : ver = ver' := hq _ (by simp)
      subst hver
      simp only [Rep] at hr
      exact ⟨lend_own hi hk hr.1, nofun⟩
    · cases h
  | .agg l, q, o, d', v, h, hq, hr => by
    simp only [lend] at h
    split at h
    · rename_i p o' l' hl
      simp at h; obtain ⟨rfl, rfl, rfl⟩ := h
      simp only [Rep] at hr ⊢
      obtain ⟨cs, h1, h2, h3⟩ := hr
      obtain ⟨h4, h5⟩ := lendL_ok hi l _ _ _ cs hl hq h2
      exact ⟨⟨cs, h1, h4, h3⟩, fun ho => ⟨cs, h1, h5 ho, h3⟩⟩
    · cases h
  | .tup l, q, o, d', v, h, hq, hr => by
    simp only [lend] at h
    split at h
    · rename_i p o' l' hl
      simp at h; obtain ⟨rfl, rfl, rfl⟩ := h
      simp only [Rep] at hr ⊢
      obtain ⟨cs, h1, h2⟩ := hr
      obtain ⟨h4, h5⟩ := lendL_ok hi l _ _ _ cs hl hq h2
      exact ⟨⟨cs, h1, h4⟩, fun ho => ⟨cs, h1, h5 ho⟩⟩
    · cases h
  | .box _ _, _, _, _, _, h, _, _ => by simp [lend] at h
  | .el _ _ _ _, _, _, _, _, h, _, _ => by simp [lend] at h
  | .elo _ _ _ _ _, _, _, _, _, h, _, _ => by simp [lend] at h
  | .any, _, _, _, _, h, _, _ => by simp [lend] at h
theorem lendL_ok (hi : Inv B w0 K0 K pl bx w) : ∀ (l : List D) (q : List Prop) (o : Bool) (l' : List D) (vs : List Value), lendL bx l = some (q, o, l') → (∀ p ∈ q, p) → RepL K pl l vs → RepL (lendK K pl bx w) pl0 l' vs ∧ (o = false → RepL K pl0 l' vs)
  | [], q, o, l', vs, h, _, hr => by
    simp [lendL] at h; obtain ⟨rfl, rfl, rfl⟩ := h
    simp only [RepL] at hr ⊢; exact ⟨hr, fun _ => hr⟩
  | d :: l, q, o, l', vs, h, hq, hr => by
    simp only [lendL] at h
    split at h
    · rename_i p o1 d1 hd
      split at h
      · rename_i q2 o2 l2 hl
        simp at h; obtain ⟨rfl, rfl, rfl⟩ := h
        simp only [RepL] at hr
        obtain ⟨v, r, rfl, h2, h3⟩ := hr
        obtain ⟨h4, h5⟩ := lend_ok hi d _ _ _ v hd (fun x hx => hq x (by simp [hx])) h2
        obtain ⟨h6, h7⟩ := lendL_ok hi l _ _ _ r hl (fun x hx => hq x (by simp [hx])) h3
        simp only [RepL]
        refine ⟨⟨v, r, rfl, h4, h6⟩, fun ho => ?_⟩
        cases o1 with
        | true => simp at ho
        | false => exact ⟨v, r, rfl, h5 rfl, h7 ho⟩
      · cases h
    · cases h
end
end

section
variable {P : Program} {g : G} {env : Env} {bx : List Ent} {dst : Option Tmp} {ty : TypeId} {pos : String} {after : Array Edge} {guard : Option (Nat × Bool)}

theorem ok_call {f : Nat} {fn : Func} {args : Array Operand} {ts : Array TypeId} {xs : List X} (hf : P.funcs[f]? = some fn) (hn : (fn.name == "runtime.NumGoroutine") = false) (hb : fn.body.isSome = true) (hx : opXs P args.toList ts.toList = some xs) :
    ResOk P ⟨dst, .call { callee := .value (.func f), args := args, argTypes := ts }, ty, pos, after, guard⟩ (.call f xs) g env bx (stepF (.call f xs) g env bx) := by
  simp only [stepF]
  split
  · rename_i ds hds
    split
    · rename_i q o ds' hl
      intro B w0 K0 K pl w a hi hs hg hq
      have h1 := evs_ok (K := K) (pl := pl) hg hx hs hds
      obtain ⟨h2, h3⟩ := lendL_ok hi ds q o ds' _ hl hq h1
      have hrun : (execOp a.eval ⟨dst, .call { callee := .value (.func f), args := args, argTypes := ts }, ty, pos, after, guard⟩).run P w = .ok (.enter f (args.map a.eval)) w := by
        have hbn : fn.body ≠ none := by cases h : fn.body <;> simp [h] at hb ⊢
        have hn' : fn.name ≠ "runtime.NumGoroutine" := by simpa using hn
        simp [execOp, resolve, Act.eval, Deferred.ofValue, invoke, callFunc, Sem.run_bind, run_program, hf, hn', hbn]
      cases o with
      | false => exact ⟨args.map a.eval, K, hrun, KLe.refl _, hi.mod, by simpa using h3 rfl, fun _ => rfl⟩
      | true => exact ⟨args.map a.eval, lendK K pl bx w, hrun, lendK_le _ _ _ _, lendK_mod hi.mod, by simpa using h2, nofun⟩
    · trivial
  · trivial
theorem compRows_eq {t : TypeId} {a : Act} : ∀ {n : Nat} {ps : List (Nat × Operand)} {xs : List X}, compRows P t n ps = some xs → opXs P (ps.map (·.2)) (List.replicate ps.length t) = some xs ∧ (ps.map fun p => (p.1, a.eval p.2)) = ((ps.map fun p => a.eval p.2).zipIdx n).map fun p => (p.2, p.1)
  | n, [], xs, h => by simp [compRows] at h; subst h; simp [opXs]
  | n, (i, x) :: r, xs, h => by
    simp only [compRows] at h
    split at h
    · rename_i hi
      subst hi
      split at h
      · rename_i x' l hx hl
        cases h
        obtain ⟨h1, h2⟩ := compRows_eq (a := a) hl
        exact ⟨by simp [opXs, hx, h1, List.replicate_succ], by simp [h2]⟩
      · cases h
    · cases h

theorem ok_bsl {t e : TypeId} {n s : Nat} {parts : Array (Nat × Operand)} {an : Option Nat} {xs : List X} (hu : P.underlying t = some (.slice e)) (hs' : szOf P e = some s) (han : aggN P e = some an) (hc : compRows P e 0 parts.toList = some xs)
    (hlen : xs.length = n) (hs0 : 0 < s) (hsmall : n * s ≤ 4096) (hz : ((P.info? e).bind (·.zero)).isSome = true) :
    ResOk P ⟨dst, .buildSlice t n parts, ty, pos, after, guard⟩ (.bsl s an xs) g env bx (stepF (.bsl s an xs) g env bx) := by
  simp only [stepF]
  split
  · rename_i ds hds
    split
    · rename_i hcl
      rw [bA_iff] at hcl
      intro B w0 K0 K pl w a hi hs hg hq
      obtain ⟨h1, h2⟩ := compRows_eq (a := a) hc
      have h3 := evs_ok (K := K) (pl := pl) hg h1 hs hds
      have h4 := closedL_rep _ _ hcl.1 h3
      have hsz : an.getD 1 = s := by have := aggN_size han; rw [hs'] at this; cases this; rfl
      have h5 := rowsOf_sized hsz h3 hcl.2
      simp only [List.map_map] at h3 h4 h5
      generalize hvs : (parts.toList.map (a.eval ∘ fun x => x.2)) = vs at h3 h4 h5
      have hvl : vs.length = n := by
        have := congrArg List.length h2
        have h6 : xs.length = parts.toList.length := by
          clear h1 h2 hvs hds this
          have gen : ∀ (k : Nat) (ps : List (Nat × Operand)) (xs : List X), compRows P e k ps = some xs → xs.length = ps.length := by
            intro k ps
            induction ps generalizing k with
            | nil => intro xs h; simp [compRows] at h; subst h; rfl
            | cons p ps ih =>
              intro xs h
              obtain ⟨i, x⟩ := p
              simp only [compRows] at h
              split at h
              · split at h
                · rename_i l _ hl; cases h; simp [ih _ _ hl]
                · cases h
              · cases h
          exact gen _ _ _ hc
        rw [← hvs]; simp at h6 ⊢; omega
      obtain ⟨zv, inf, hinf, hz1⟩ : ∃ zv inf, P.info? e = some inf ∧ inf.zero = some zv := by
        cases hi' : P.info? e with
        | none => simp [hi'] at hz
        | some inf => cases hz' : inf.zero with
          | none => simp [hi', hz'] at hz
          | some zv => exact ⟨zv, inf, rfl, hz'⟩
      have hzr : (zeroValue e).run P w = .ok zv w := by simp [zeroValue, typeInfo, hinf, hz1]
      have hsr := run_sizeOf' hs' w
      let zc : Array Value := if n * s = 0 then #[] else zv.cells
      obtain ⟨r, h6, h7⟩ := fill_rows (sz := s) 0 vs 0 ((Array.range (n * s)).map (zc[· % zc.size]!)) [] h5 (by simp) (by simp) (by simp [hvl])
      have hparts : (parts.map fun (p : Nat × Operand) => (p.1, a.eval p.2)).toList = (vs.zipIdx 0).map fun p => (p.2, p.1) := by
        rw [Array.toList_map, h2, ← hvs]; rfl
      obtain ⟨h8, h9⟩ := hi.newRow r e
      refine ⟨.slice (some ⟨w.heap.size, 0, none⟩) n n, w.alloc (.cells r e), _, pl, .inl ?_, h8, PLe.refl _, h9, ?_⟩
      · have hbig : ¬ n * s > 2 ^ 24 := by omega
        have hrun : (Instr.buildSlice t n (parts.map fun (p : Nat × Operand) => (p.1, a.eval p.2))).run P w = .ok (.slice (some ⟨w.heap.size, 0, none⟩) n n) (w.alloc (.cells r e)) := by
          have h6' : Instr.fill (fun i => some (i * s, s)) ((Array.range (n * s)).map (zc[· % zc.size]!)) (parts.map fun (p : Nat × Operand) => (p.1, a.eval p.2)).toList = some r := by rw [hparts]; exact h6
          unfold Instr.buildSlice
          by_cases hz0 : n * s = 0
          · have hzc : zc = #[] := by simp [zc, hz0]
            rw [hzc] at h6'
            have h16 : ¬ (0 > 2 ^ 24) := by omega
            simp only [hz0] at h6'
            simp only [Sem.run_bind, run_underlying hu w, Result.andThen_ok, hsr, hz0, if_neg h16, if_true, Sem.run_pure, h6']
            simp [newRow, newObj, Sem.run]
          · have hzc : zc = zv.cells := by simp [zc, hz0]
            rw [hzc] at h6'
            simp only [Sem.run_bind, run_underlying hu w, Result.andThen_ok, hsr, if_neg hbig, Sem.run_pure, if_neg hz0, hzr, h6']
            simp [newRow, newObj, Sem.run]
        simp [execOp, hrun]
      · simp only [Rep]
        refine ⟨_, _, _, rfl, ?_, nofun, .inr ⟨w.heap.size, 0, vs, rfl, RepL.mono h8 (PLe.refl _) _ _ h4, r, e, (0, 0), by simp [addK], h5, ?_⟩⟩
        · rw [← hvl]; exact h4.length
        · rw [List.drop_zero, h7]; simp
    · trivial
  · trivial

theorem ok_nilS {e : TypeId} {sz : Nat} (op : Op) (hop : op = .move (.const (.slice none 0 0)) ∨ op = .assign (.const (.slice none 0 0))) :
    ResOk P ⟨dst, op, ty, pos, after, guard⟩ (.nilS e sz) g env bx (stepF (.nilS e sz) g env bx) := by
  simp only [stepF]
  split
  · intro B w0 K0 K pl w a hi hs hg hq
    rw [sizeE_eq, addE_eq]
    have hp : PLe pl (updPl pl bx.length 0 (.slice none 0 0)) := updPl_le (hi.tab.free _ _ (Nat.le_refl _))
    refine ⟨.slice none 0 0, w, K, updPl pl bx.length 0 (.slice none 0 0), .inl ?_, KLe.refl _, hp, ⟨hi.below, hi.base, hi.mod, hi.le, hi.new, ?_⟩, ?_⟩
    · rcases hop with rfl | rfl <;> simp [execOp, Act.eval]
    · refine hi.tab.add _ _ (.inl (by simp [entBlk, updPl_self, blkV])) (fun b _ => rfl) ?_
      refine ⟨.slice none 0 0, [], updPl_self _ _ _ _, World.ownsRow_nil _ _ _ _, by simp [RepL], fun v hv => (by cases hv), by simp [Value.ownBlock], fun ver' hv => ?_⟩
      rw [updPl_ne (.inr (by omega))]
      exact hi.tab.free _ _ (Nat.le_refl _)
    · simp only [Rep]; exact ⟨updPl_self _ _ _ _, none, 0, 0, rfl⟩
  · trivial

theorem flat_append (a b : List Value) : flat (a ++ b) = flat a ++ flat b := by simp [flat]
theorem flat_length {sz : Nat} : ∀ {vs : List Value}, sized sz vs → (flat vs).length = vs.length * sz
  | [], _ => by simp [flat]
  | v :: vs, h => by
    have h1 := (h v (by simp)).1
    have h2 := flat_length (vs := vs) fun x hx => h x (by simp [hx])
    simp only [flat, List.flatMap_cons, List.length_append] at h2 ⊢
    simp [h2, h1, Nat.add_mul]; omega
theorem flat_one {sz : Nat} {vs : List Value} (h : sized sz vs) : ∀ u ∈ flat vs, u.oneCell' = true := fun u hu => by
  obtain ⟨v, hv, hu⟩ := List.mem_flatMap.1 hu
  exact (h v hv).2 u hu

/-- An append to an own row: where it lies then. -/
theorem run_append_all {B : Nat} {w : World} {t e : TypeId} {i : TypeInfo} {z : Value} (ht : P.underlying t = some (.slice e)) (hi : P.info? e = some i) (hz : i.zero = some z) (hzs : z.cells.size = i.size) (hsz : 0 < i.size) (hby : i.bytes ≤ 64)
    {v : Value} {n : Nat} {xs : List Value} (hown : w.ownsRow B e i.size v n xs) {a : Option Addr} {m c : Nat} {news : List Value} (hl : news.length = m * i.size) (ha : a = none → m = 0 ∧ c = 0)
    (hnews : ∀ ad, a = some ad → ∀ j u, news[j]? = some u → w.cell? (ad.add j) = some u) (h1 : ∀ u ∈ news, u.oneCell' = true) (hlt : n + m < 2147483648) (hbase : B ≤ w.heap.size) :
    ∃ v' w', (Builtin.append_ #[t, t] ty #[v, .slice a m c]).run P w = .ok v' w' ∧ w'.ownsRow B e i.size v' (n + m) (xs ++ news) ∧ w.grownBy w' v.ownBlock ∧ (∀ b, v'.ownBlock = some b → v.ownBlock = some b ∨ w.heap.size ≤ b) := by
  cases a with
  | none =>
    obtain ⟨rfl, rfl⟩ := ha rfl
    have hnil : news = [] := List.eq_nil_of_length_eq_zero (by simpa using hl)
    subst hnil
    exact ⟨v, w, run_append_owned_none w B t ty e i i.size ht hi v n xs hown, by simpa using hown, ⟨rfl, rfl, rfl, Nat.le_refl _, fun _ _ _ => rfl⟩, fun b hb => .inl hb⟩
  | some ad =>
    have hnews := hnews ad rfl
    have hbytes : (n + m) * i.bytes ≤ 140737488355328 := Nat.le_trans (Nat.mul_le_mul (Nat.le_of_lt hlt) hby) (by omega)
    have hmax : n + m ≤ maxLen := by unfold maxLen; omega
    obtain ⟨v', w', h2, h3, h4, h5⟩ := run_append_own (P := P) w B t ty e i z i.size i.bytes ht hi hz rfl rfl hzs hsz v n xs hown ad m c news hl hnews h1 hmax hbytes hbase
    refine ⟨v', w', h2, h3, h4, fun b hb => ?_⟩
    rcases hown.2 with ⟨rfl, rfl⟩ | ⟨g, cap, cur, rfl, hbg, hg, hnc, hcm, hcs, htake⟩
    · right
      obtain ⟨v2, w2, h6, h7, _⟩ := run_append_own (P := P) w w.heap.size t ty e i z i.size i.bytes ht hi hz rfl rfl hzs hsz (.slice none 0 0) 0 xs ⟨hown.1, .inl ⟨rfl, rfl⟩⟩ ad m c news hl hnews h1 hmax hbytes (Nat.le_refl _)
      rw [h2] at h6; cases h6
      exact (h7.lt b hb).1
    · by_cases hroom : n + m ≤ cap
      · left
        have hfit : n * i.size + news.length ≤ cur.size := by rw [hl, hcs, ← Nat.add_mul]; exact Nat.mul_le_mul_right _ hroom
        have hr := run_append_room (P := P) w t ty e i ht hi g n cap cur hg ad m c news hl hnews h1 hroom hfit
        rw [h2] at hr; cases hr
        simpa [Value.ownBlock] using hb
      · right
        have holds : ∀ j u, xs[j]? = some u → w.cell? ((⟨g, 0, none⟩ : Addr).add j) = some u := hown.cells (g := g) rfl
        have hr := run_append_grow (P := P) w t ty e i z ht hi hz ⟨g, 0, none⟩ n cap xs hown.1 holds ad m c news hl hnews (by omega) (by unfold maxLen at hmax; omega) (growslice_fits (by omega) hbytes)
        rw [h2] at hr; cases hr
        simp [Value.ownBlock] at hb; omega

theorem ok_app {t e : TypeId} {i : TypeInfo} {z : Value} {x y : Operand} {x' y' : X} (ht : P.underlying t = some (.slice e)) (hinf : P.info? e = some i) (hz : i.zero = some z) (hzs : z.cells.size = i.size) (hsz : 0 < i.size) (hby : i.bytes ≤ 64)
    (hx : opX P t x = some x') (hy : opX P t y = some y') :
    ResOk P ⟨dst, .call { callee := .builtin .append, args := #[x, y], argTypes := #[t, t] }, ty, pos, after, guard⟩ (.app e i.size i.bytes x' y') g env bx (stepF (.app e i.size i.bytes x' y') g env bx) := by
  simp only [stepF]
  split
  · cases hd : evX env [] x' with
    | none => simp [stepApp, ResOk]
    | some d0 =>
      cases d0 <;> try (simp [stepApp, ResOk]; done)
      rename_i k ver
      cases he : evX env [] y' with
      | none => simp [stepApp, ResOk]
      | some d1 =>
        cases d1 <;> try (simp [stepApp, ResOk]; done)
        rename_i sz' m
        simp only [stepApp]
        split
        · rename_i e' sz'' ver' rows hk
          rw [entN_eq] at hk
          intro B w0 K0 K pl w a hi hs hg hq
          have h1 := ev_ok (K := K) (pl := pl) hx (fun s hs' => hs s (xslL hs')) (holds_nil a) hd
          have h2 := ev_ok (K := K) (pl := pl) hy (fun s hs' => hs s (xslR hs')) (holds_nil a) he
          obtain ⟨rfl, rfl, rfl, rfl, hlt⟩ := hq _ (List.mem_singleton.2 rfl)
          simp only [Rep] at h1 h2
          obtain ⟨v, vs, h3, h4, h5, h6, h7, h8⟩ := hi.tab.ok k _ hk
          rw [h1.1] at h3; cases h3
          obtain ⟨ao, n, c, h9, rfl, h10, h11⟩ := h2
          -- the rows that are appended
          obtain ⟨us, hu1, hu2, hu3⟩ : ∃ us, RepL K pl0 m us ∧ sized i.size us ∧ (∀ ad, ao = some ad → ∀ j u, (flat us)[j]? = some u → w.cell? (ad.add j) = some u) := by
            rcases h11 with rfl | ⟨b, off, us, rfl, h12, cs, T, fz, h13, h14, h15⟩
            · exact ⟨[], by simp [RepL], fun v hv => (by cases hv), fun ad _ j u hju => (by simp [flat] at hju)⟩
            · refine ⟨us, h12, h14, fun ad had j u hju => ?_⟩
              cases had
              rw [Addr.add_mid]
              exact range_of_prefix (hi.mod _ _ h13) h15 j u hju
          have hul : (flat us).length = m.length * i.size := by rw [flat_length hu2, hu1.length]
          have hao : ao = none → m.length = 0 ∧ c = 0 := fun h => ⟨(by rcases h11 with rfl | ⟨b, off, us, h12, _⟩; rfl; rw [h] at h12; cases h12), h10 h⟩
          obtain ⟨v', w', h16, h17, h18, h19⟩ := run_append_all (P := P) (ty := ty) ht hinf hz hzs hsz hby h4 hul hao hu3 (flat_one hu2) hlt hi.base
          let pl' := updPl pl k (ver + 1) v'
          have hpl : PLe pl pl' := updPl_le (h8 (ver + 1) (by omega))
          have hslice : ∃ a n c, v' = .slice a n c := by
            rcases h17.2 with ⟨rfl, _⟩ | ⟨g, cap, cur, rfl, _⟩
            · exact ⟨_, _, _, rfl⟩
            · exact ⟨_, _, _, rfl⟩
          have hblk : ∀ b, blkV v' = some b → v'.ownBlock = some b := by
            obtain ⟨a1, n1, c1, rfl⟩ := hslice
            intro b hb; cases a1 with
            | none => simp [blkV] at hb
            | some a1 => simpa [blkV, Value.ownBlock] using hb
          have hblk0 : ∀ b, (a.eval x).ownBlock = some b → entBlk pl k (.arr e i.size ver rows) = some b := by
            obtain ⟨hpl0, a1, n1, c1, hv⟩ := h1
            intro b hb
            rw [hv] at hb
            cases a1 with
            | none => simp [Value.ownBlock] at hb
            | some a1 => simp [entBlk, hpl0, hv, blkV]; simpa [Value.ownBlock] using hb
          have hK : ∀ b o, K b = some o → w'.heap[b]? = w.heap[b]? := fun b o hb => by
            have hlt' : b < w.heap.size := (Array.getElem?_eq_some_iff.1 (hi.mod _ _ hb)).1
            refine h18.block b hlt' fun heq => ?_
            rw [h7 b heq.symm] at hb; cases hb
          rw [setE_eq]
          refine ⟨v', w', K, pl', .inl ?_, KLe.refl _, hpl, ⟨hi.below.grown h18 hi.base (fun k' hk' => (h4.lt k' hk').1), Nat.le_trans hi.base h18.size, fun b o hb => by rw [hK b o hb]; exact hi.mod b o hb, hi.le, hi.new, ?_⟩, ?_⟩
          · exact run_builtin_op (cs := #[]) (fun cs => rfl) (by simp only [List.map_toArray, List.map_cons, List.map_nil]; rw [h9]; exact run_lift h16)
          · refine hi.tab.upd hk hpl (fun k' ver' hne => updPl_ne (.inl hne)) (fun b hb => ?_) (fun b hb hne => ?_) ?_
            · simp only [entBlk, pl', updPl_self, Option.bind_some] at hb
              rcases h19 b (hblk b hb) with h20 | h20
              · exact .inl (hblk0 b h20)
              · exact .inr h20
            · exact h18.block b hb fun heq => hne (hblk0 b heq.symm)
            · refine ⟨v', vs ++ us, updPl_self _ _ _ _, ?_, h5.append hu1, fun y hy => ?_, fun b hb => ?_, fun ver2 hver2 => ?_⟩
              · rw [flat_append, List.length_append]; exact h17
              · rcases List.mem_append.1 hy with hy | hy
                · exact h6 y hy
                · exact hu2 y hy
              · rcases h19 b hb with h20 | h20
                · exact h7 b h20
                · cases hKb : K b with
                  | none => rfl
                  | some o => have := (Array.getElem?_eq_some_iff.1 (hi.mod _ _ hKb)).1; omega
              · show updPl pl k (ver + 1) v' k ver2 = none
                rw [updPl_ne (.inr (by omega))]; exact h8 ver2 (by omega)
          · simp only [Rep]; exact ⟨updPl_self _ _ _ _, hslice⟩
        · trivial
  · trivial
end
end Go.AM
