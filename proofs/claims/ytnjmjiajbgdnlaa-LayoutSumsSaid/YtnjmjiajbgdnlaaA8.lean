/- One operation, kind by kind. -/
import Derived.Test.YtnjmjiajbgdnlaaA7
set_option linter.all false
namespace Go.AM
open Go Go.RowKit

section
variable {P : Program} {gt : Nat → Option (List D)} {g : G} {env : Env} {bx : List Ent} {dst : Option Tmp} {ty : TypeId} {pos : String} {after : Array Edge} {guard : Option (Nat × Bool)}

theorem xslL {x y : X} {s : Nat} (h : s ∈ xsl x) : s ∈ xsl x ++ xsl y := List.mem_append_left _ h
theorem xslR {x y : X} {s : Nat} (h : s ∈ xsl y) : s ∈ xsl x ++ xsl y := List.mem_append_right _ h

theorem allP_app {p q : List Prop} (h : ∀ x ∈ p ++ q, x) : (∀ x ∈ p, x) ∧ ∀ x ∈ q, x := ⟨fun x hx => h x (List.mem_append_left _ hx), fun x hx => h x (List.mem_append_right _ hx)⟩

mutual
theorem frz_ok {F : Fr} {pl : Pl} {w : World} : ∀ (d : D) {K : Kn} {bx : List Ent} {q : List Prop} {d' : D} {bx' : List Ent} {v : Value}, frz bx d = some (q, d', bx') → (∀ p ∈ q, p) → Inv F K pl bx w → Rep K pl d v →
    ∃ K', KLe K K' ∧ Inv F K' pl bx' w ∧ Rep K' pl0 d' v
  | .int _ _, K, _, _, _, _, _, h, _, hi, hr => by simp only [frz, Option.some.injEq, Prod.mk.injEq] at h; obtain ⟨rfl, rfl, rfl⟩ := h; exact ⟨K, KLe.refl _, hi, by simpa [Rep] using hr⟩
  | .bool _, K, _, _, _, _, _, h, _, hi, hr => by simp only [frz, Option.some.injEq, Prod.mk.injEq] at h; obtain ⟨rfl, rfl, rfl⟩ := h; exact ⟨K, KLe.refl _, hi, by simpa [Rep] using hr⟩
  | .str _, K, _, _, _, _, _, h, _, hi, hr => by simp only [frz, Option.some.injEq, Prod.mk.injEq] at h; obtain ⟨rfl, rfl, rfl⟩ := h; exact ⟨K, KLe.refl _, hi, by simpa [Rep] using hr⟩
  | .ls _ _, K, _, _, _, _, _, h, _, hi, hr => by simp only [frz, Option.some.injEq, Prod.mk.injEq] at h; obtain ⟨rfl, rfl, rfl⟩ := h; exact ⟨K, KLe.refl _, hi, by simpa [Rep] using hr⟩
  | .mp _ _, K, _, _, _, _, _, h, _, hi, hr => by simp only [frz, Option.some.injEq, Prod.mk.injEq] at h; obtain ⟨rfl, rfl, rfl⟩ := h; exact ⟨K, KLe.refl _, hi, by simpa [Rep] using hr⟩
  | .nil, K, _, _, _, _, _, h, _, hi, hr => by simp only [frz, Option.some.injEq, Prod.mk.injEq] at h; obtain ⟨rfl, rfl, rfl⟩ := h; exact ⟨K, KLe.refl _, hi, by simpa [Rep] using hr⟩
  | .glob _ _, K, _, _, _, _, _, h, _, hi, hr => by simp only [frz, Option.some.injEq, Prod.mk.injEq] at h; obtain ⟨rfl, rfl, rfl⟩ := h; exact ⟨K, KLe.refl _, hi, by simpa [Rep] using hr⟩
  | .own k ver, K, bx, _, _, _, _, h, hp, hi, hr => by
    simp only [frz] at h
    split at h
    · rename_i e sz ver' rows hk
      cases h
      have hv : ver = ver' := hp _ (List.mem_singleton.2 rfl)
      subst hv
      rw [entN_eq] at hk
      obtain ⟨K', h1, h2, h3⟩ := hi.give hk
      simp only [Rep] at hr
      rw [setE_eq]
      exact ⟨K', h1, h2, h3 _ hr.1⟩
    · cases h
  | .agg l, K, bx, _, _, _, _, h, hp, hi, hr => by
    simp only [frz] at h
    split at h
    · rename_i p l' bx' hl
      cases h
      simp only [Rep] at hr
      obtain ⟨cs, h1, h2, h3⟩ := hr
      obtain ⟨K', h4, h5, h6⟩ := frzL_ok l hl hp hi h2
      exact ⟨K', h4, h5, by simp only [Rep]; exact ⟨cs, h1, h6, h3⟩⟩
    · cases h
  | .tup l, K, bx, _, _, _, _, h, hp, hi, hr => by
    simp only [frz] at h
    split at h
    · rename_i p l' bx' hl
      cases h
      simp only [Rep] at hr
      obtain ⟨cs, h1, h2⟩ := hr
      obtain ⟨K', h4, h5, h6⟩ := frzL_ok l hl hp hi h2
      exact ⟨K', h4, h5, by simp only [Rep]; exact ⟨cs, h1, h6⟩⟩
    · cases h
  | .fn f l, K, bx, _, _, _, _, h, hp, hi, hr => by
    simp only [frz] at h
    split at h
    · rename_i p l' bx' hl
      cases h
      simp only [Rep] at hr
      obtain ⟨cs, h1, h2⟩ := hr
      obtain ⟨K', h4, h5, h6⟩ := frzL_ok l hl hp hi h2
      exact ⟨K', h4, h5, by simp only [Rep]; exact ⟨cs, h1, h6⟩⟩
    · cases h
  | .box _ _, _, _, _, _, _, _, h, _, _, _ => by simp [frz] at h
  | .boxi _ _, _, _, _, _, _, _, h, _, _, _ => by simp [frz] at h
  | .bsl _ _ _ _, _, _, _, _, _, _, h, _, _, _ => by simp [frz] at h
  | .ownm _ _, _, _, _, _, _, _, h, _, _, _ => by simp [frz] at h
  | .el _ _ _ _, _, _, _, _, _, _, h, _, _, _ => by simp [frz] at h
  | .elo _ _ _ _ _, _, _, _, _, _, _, h, _, _, _ => by simp [frz] at h
  | .any, _, _, _, _, _, _, h, _, _, _ => by simp [frz] at h
theorem frzL_ok {F : Fr} {pl : Pl} {w : World} : ∀ (l : List D) {K : Kn} {bx : List Ent} {q : List Prop} {l' : List D} {bx' : List Ent} {vs : List Value}, frzL bx l = some (q, l', bx') → (∀ p ∈ q, p) → Inv F K pl bx w → RepL K pl l vs →
    ∃ K', KLe K K' ∧ Inv F K' pl bx' w ∧ RepL K' pl0 l' vs
  | [], K, bx, _, _, _, vs, h, _, hi, hr => by
    simp only [frzL, Option.some.injEq, Prod.mk.injEq] at h
    obtain ⟨rfl, rfl, rfl⟩ := h
    exact ⟨K, KLe.refl _, hi, by simpa [RepL] using hr⟩
  | d :: l, K, bx, _, _, _, vs, h, hp, hi, hr => by
    simp only [frzL] at h
    split at h
    · rename_i p d' bx1 hd
      split at h
      · rename_i q l' bx2 hl
        cases h
        obtain ⟨hp1, hp2⟩ := allP_app hp
        simp only [RepL] at hr
        obtain ⟨v, r, rfl, h1, h2⟩ := hr
        obtain ⟨K1, h3, h4, h5⟩ := frz_ok d hd hp1 hi h1
        obtain ⟨K2, h6, h7, h8⟩ := frzL_ok l hl hp2 h4 (RepL.mono h3 (PLe.refl _) _ _ h2)
        exact ⟨K2, h3.trans h6, h7, by simp only [RepL]; exact ⟨v, r, rfl, Rep.mono h6 (PLe.refl _) _ _ h5, h8⟩⟩
      · cases h
    · cases h
end

theorem ok_mv {fz : Bool} {x : Operand} {x' : X} (hx : opX P ty x = some x') (op : Op) (hop : ∀ ρ : Operand → Value, ∀ w, (execOp ρ ⟨dst, op, ty, pos, after, guard⟩).run P w = .ok (.value (ρ x)) w) : ResOk P gt ⟨dst, op, ty, pos, after, guard⟩ (.mv fz x') g env bx (stepF gt (.mv fz x') g env bx) := by
  simp only [stepF]
  split
  · rename_i he
    refine ResOk.pure ?_
    intro F K pl w a hF hi hs hg hp
    exact ⟨a.eval x, hop _ _, ev_ok hx hs hg he⟩
  · rename_i he
    split
    · rename_i q d' bx' hf
      intro F K pl w a hF hi hs hg hp
      obtain ⟨K', h1, h2, h3⟩ := frz_ok _ hf hp hi (ev_ok hx hs hg he)
      exact ⟨a.eval x, w, K', pl, .inl (hop _ _), h1, PLe.refl _, h2, Rep.mono (KLe.refl _) (PLe.zero _) _ _ h3⟩
    · trivial
  · trivial

theorem ok_pick {c a b : Operand} {c' a' b' : X} (hc : opX P ty c = some c') (ha : opX P ty a = some a') (hb : opX P ty b = some b') :
    ResOk P gt ⟨dst, .pick c a b, ty, pos, after, guard⟩ (.pick c' a' b') g env bx (stepF gt (.pick c' a' b') g env bx) := by
  cases c' with
  | c d => simp [stepF, ResOk]
  | t s =>
    have hcs : c = .tmp s := by
      unfold opX at hc
      split at hc
      · cases hc; rfl
      · rename_i v; cases hv : constD P ty v <;> simp [hv] at hc
      · cases hc
      · cases hc
    subst hcs
    simp only [stepF, stepPick]
    split
    · split
      · rename_i cb r hcb hr
        refine ResOk.pure ?_
        intro F K pl w a0 hF hi hs hg hp
        refine ⟨.bool (cb || r), ?_, by simp [Rep]⟩
        have h1 := rd_ok (hs s (by simp [msl, xsl])) hg hcb
        simp only [Rep] at h1
        have hav : a0.eval a = .bool true := by
          have := ev_ok (K := K) (pl := pl) ha (fun s hs' => hs s (by simp [msl]; simp [xsl] at hs')) hg (d := .bool true) (by simp [evX])
          simpa [Rep] using this
        cases cb with
        | true => simp [execOp, asBool, Act.eval, h1] at hav ⊢; exact hav
        | false =>
          have hg' : holds a0 ((s, false) :: g) := fun p hp => by rcases List.mem_cons.1 hp with rfl | hp; exact h1; exact hg p hp
          have h2 := ev_ok (K := K) (pl := pl) hb (fun s hs' => hs s (by simp [msl, hs'])) hg' hr
          simp only [Rep] at h2
          simp [execOp, asBool, Act.eval, h1] at h2 ⊢; exact h2
      · trivial
    · split
      · rename_i cb r hcb hr
        refine ResOk.pure ?_
        intro F K pl w a0 hF hi hs hg hp
        refine ⟨.bool (cb && r), ?_, by simp [Rep]⟩
        have h1 := rd_ok (hs s (by simp [msl, xsl])) hg hcb
        simp only [Rep] at h1
        have hbv : a0.eval b = .bool false := by
          have := ev_ok (K := K) (pl := pl) hb (fun s hs' => hs s (by simp [msl]; simp [xsl] at hs')) hg (d := .bool false) (by simp [evX])
          simpa [Rep] using this
        cases cb with
        | false => simp [execOp, asBool, Act.eval, h1] at hbv ⊢; exact hbv
        | true =>
          have hg' : holds a0 ((s, true) :: g) := fun p hp => by rcases List.mem_cons.1 hp with rfl | hp; exact h1; exact hg p hp
          have h2 := ev_ok (K := K) (pl := pl) ha (fun s hs' => hs s (by simp [msl, hs'])) hg' hr
          simp only [Rep] at h2
          simp [execOp, asBool, Act.eval, h1] at h2 ⊢; exact h2
      · trivial
    · trivial

theorem run_newVar (t : TypeId) (v : Value) (w : World) : (newVar t v).run P w = .ok ⟨w.heap.size, 0, none⟩ (w.alloc (.cells v.cells t)) := by
  simp [newVar, newRow, newObj, Sem.run]

theorem ok_alloc {t : TypeId} {z : List D} (hz : zeroOf P t = some z) : ResOk P gt ⟨dst, .alloc t, ty, pos, after, guard⟩ (.alloc z) g env bx (stepF gt (.alloc z) g env bx) := by
  simp only [stepF]
  split
  · intro F K pl w a hF hi hs hg hp
    obtain ⟨v, h1, h2, _⟩ := run_zero hz w
    obtain ⟨h3, h4⟩ := repsB_ok K pl h2
    obtain ⟨h5, h6, h7⟩ := hi.newVar t h3 h4
    rw [sizeE_eq, addE_eq]
    refine ⟨_, _, K, _, .inl ?_, KLe.refl _, h5, h6, h7⟩
    simp [execOp, Instr.alloc, h1, run_newVar]
  · trivial

theorem ok_box {t : TypeId} {x : Operand} {n : Option Nat} {x' : X} (hn : aggN P t = some n) (hx : opX P t x = some x') :
    ResOk P gt ⟨dst, .box t x, ty, pos, after, guard⟩ (.box n.isSome x') g env bx (stepF gt (.box n.isSome x') g env bx) := by
  have key : ∀ {l : List D} {d : D}, evX env [] x' = some d → (∀ K pl v, Rep K pl d v → RepL K pl l v.cells.toList ∧ ∀ c ∈ v.cells.toList, c.oneCell' = true) →
      ResOk P gt ⟨dst, .box t x, ty, pos, after, guard⟩ (.box n.isSome x') [] env bx (.ok [] (.box (sizeE bx) 0) (addE bx (.cells l))) := by
    intro l d he hd F K pl w a hF hi hs hg hp
    have h1 := ev_ok (K := K) (pl := pl) hx hs (holds_nil a) he
    obtain ⟨h3, h4⟩ := hd K pl _ h1
    obtain ⟨h5, h6, h7⟩ := hi.newVar t h3 h4
    rw [sizeE_eq, addE_eq]
    refine ⟨_, _, K, _, .inl ?_, KLe.refl _, h5, h6, h7⟩
    simp [execOp, Instr.box, run_newVar]
  simp only [stepF]
  split
  · split
    · rename_i l hnn he
      refine key he fun K pl v hr => ?_
      simp only [Rep] at hr
      obtain ⟨cs, rfl, h2, h3⟩ := hr
      exact ⟨by simpa [Value.cells] using h2, by simpa [Value.cells] using h3⟩
    · rename_i d hnn he
      cases ho : isOne d with
      | false => simp [ResOk]
      | true =>
        simp only [cond_true]
        refine key he fun K pl v hr => ?_
        obtain ⟨h1, h2⟩ := hr.one ho
        rw [h1]
        exact ⟨by simp only [RepL]; exact ⟨v, [], rfl, hr, rfl⟩, by simp [h2]⟩
    · trivial
  · trivial

theorem ok_ld {t : TypeId} {x : Operand} {n : Option Nat} {x' : X} (hn : aggN P t = some n) (hx : opX P 0 x = some x') :
    ResOk P gt ⟨dst, .load t x, ty, pos, after, guard⟩ (.ld n x') g env bx (stepF gt (.ld n x') g env bx) := by
  simp only [stepF]
  cases he : evX env g x' with
  | none => simp [stepLd, ResOk]
  | some d0 =>
    have hev : ∀ {K pl a}, (∀ s ∈ msl (M.ld n x'), SlotOk K pl env a s) → holds a g → Rep K pl d0 (a.eval x) := fun hs hg => ev_ok hx hs hg he
    cases d0 <;> try (simp [stepLd, ResOk]; done)
    case box k off =>
      simp only [stepLd]
      split
      · rename_i l hk
        split
        · rename_i d hd
          rw [entN_eq] at hk
          refine ResOk.pure ?_
          intro F K pl w a hF hi hs hg hp
          have h1 := hev hs hg
          simp only [Rep] at h1
          obtain ⟨b, h2, h3⟩ := h1
          obtain ⟨b', T, cs, h4, h6, h7, h8, h9⟩ := hi.tab.ok k _ hk
          rw [h2] at h4; cases h4
          have hr : w.rangeAt b 0 cs := range_of_prefix h7 (by simp)
          obtain ⟨v, h10, h11⟩ := run_load_part hn h8 h9 hr hd
          simp only [Nat.zero_add] at h10
          exact ⟨v, by simp [execOp, h3, h10], h11⟩
        · trivial
      · trivial
    case boxi k off =>
      simp only [stepLd]
      split
      · rename_i l hk
        rw [entN_eq] at hk
        intro F K pl w a hF hi hs hg hp d hd
        have h1 := hev hs hg
        simp only [Rep] at h1
        obtain ⟨b, h2, h3⟩ := h1
        obtain ⟨b', T, cs, h4, h6, h7, h8, h9⟩ := hi.tab.ok k _ hk
        rw [h2] at h4; cases h4
        have hr : w.rangeAt b 0 cs := range_of_prefix h7 (by simp)
        obtain ⟨v, h10, h11⟩ := run_load_part hn h8 h9 hr hd
        simp only [Nat.zero_add] at h10
        exact ⟨v, by simp [execOp, h3, h10], h11⟩
      · trivial
    case glob gl off =>
      simp only [stepLd]
      split
      · rename_i l hk
        intro F K pl w a hF hi hs hg hp d hd
        have h1 := hev hs hg
        simp only [Rep] at h1
        obtain ⟨cs, T, fz, h4, h8, h9⟩ := hi.glob gl l (by rw [hF]; exact hk)
        have hr : w.rangeAt gl 0 cs.toList := range_of_prefix (hi.mod _ _ h4) (by simp)
        obtain ⟨v, h10, h11⟩ := run_load_part hn h8 h9 hr hd
        simp only [Nat.zero_add] at h10
        exact ⟨v, by simp [execOp, h1, h10], Rep.mono (KLe.refl _) (PLe.zero _) _ _ h11⟩
      · trivial
    case el sz l i off =>
      simp only [stepLd]
      intro F K pl w a hF hi hs hg hp d d' hd hd'
      have h1 := hev hs hg
      simp only [Rep] at h1
      obtain ⟨b, o, vs, h2, h3, h4, cs, T, fz, h5, h6, h7⟩ := h1
      have hr : w.rangeAt b o (flat vs) := range_of_prefix (hi.mod _ _ h5) h7
      obtain ⟨v, h10, h11⟩ := run_load_row hn h4 h6 hr hd hd' (PLe.zero pl)
      exact ⟨v, by simp [execOp, h2, h10], h11⟩
    case elo k ver sz i off =>
      simp only [stepLd]
      split
      · rename_i e sz' ver' rows hk
        rw [entN_eq] at hk
        intro F K pl w a hF hi hs hg hp d d' hd hd'
        have h1 := hev hs hg
        simp only [Rep] at h1
        obtain ⟨b, n', c, h2, h3⟩ := h1
        obtain ⟨v, vs, h4, h5, h6, h7, h8, h9⟩ := hi.tab.ok k _ hk
        obtain ⟨hver, hsz⟩ := hp _ (List.mem_singleton.2 rfl)
        subst hver; subst hsz
        rw [h2] at h4; cases h4
        rcases h5.2 with ⟨h10, _⟩ | ⟨g', cap, cur, h10, h11, h12, h13, h14, h15, h16⟩
        · cases h10
        · cases h10
          have hr : w.rangeAt b 0 (flat vs) := range_of_prefix h12 (by rw [List.drop_zero, ← h16]; exact List.take_prefix _ _)
          obtain ⟨v, h17, h18⟩ := run_load_row hn h6 h7 hr hd hd' (PLe.zero pl)
          simp only [Nat.zero_add] at h17
          exact ⟨v, by simp [execOp, h3, h17], h18⟩
      · trivial
end
end Go.AM
