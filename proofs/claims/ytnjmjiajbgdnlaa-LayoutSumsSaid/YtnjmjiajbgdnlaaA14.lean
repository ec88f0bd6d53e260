/- Parts of slices; any operation. -/
import Derived.Test.YtnjmjiajbgdnlaaA13
set_option linter.all false
namespace Go.AM
open Go Go.RowKit

section
variable {P : Program} {gt : Nat → Option (List D)} {g : G} {env : Env} {bx : List Ent} {dst : Option Tmp} {ty : TypeId} {pos : String} {after : Array Edge} {guard : Option (Nat × Bool)}

theorem run_slice {t e : TypeId} {sz : Nat} (hu : P.underlying t = some (.slice e)) (hs : szOf P e = some sz) {ad : Option Addr} {len cap : Nat} {lo hi : Option Operand} {a : Act} {l h : Int} (hlo : (lo = none ∧ l = 0) ∨ ∃ x k, lo = some x ∧ a.eval x = .int k l) (hhi : (hi = none ∧ h = len) ∨ ∃ x k, hi = some x ∧ a.eval x = .int k h)
    (h0 : 0 ≤ l) (h1 : l ≤ h) (h2 : h ≤ len) (hc : len ≤ cap) (w : World) {x : Operand} (hx : a.eval x = .slice ad len cap) :
    (execOp a.eval ⟨dst, .slice t x lo hi none, ty, pos, after, guard⟩).run P w = .ok (.value (.slice (if cap = l.toNat then ad else ad.map (·.add (l.toNat * sz))) (h.toNat - l.toNat) (cap - l.toNat))) w := by
  have hb := run_bounds (P := P) (isSlice := true) (len := len) (cap := cap) hlo hhi h0 h1 h2 hc w
  have hsr := run_sizeOf' hs w
  simp [execOp, Instr.sliceAt, Instr.slice, hx, Sem.run_bind, run_underlying hu, hb, hsr]

/-- A part of a plain slice. -/
theorem ls_part {K : Kn} {pl : Pl} {sz : Nat} {rows : List D} {v : Value} (h : Rep K pl (.ls sz rows) v) {l b : Int} (h0 : 0 ≤ l) (h1 : l ≤ b) (h2 : b ≤ rows.length) :
    ∃ ad len cap, v = .slice ad len cap ∧ len = rows.length ∧ len ≤ cap ∧ Rep K pl (.ls sz ((rows.take b.toNat).drop l.toNat)) (.slice (if cap = l.toNat then ad else ad.map (·.add (l.toNat * sz))) (b.toNat - l.toNat) (cap - l.toNat)) := by
  simp only [Rep] at h
  obtain ⟨ad, n, cap, hv, hn, hc, hnil, hrows⟩ := h
  refine ⟨ad, n, cap, hv, hn, hc, ?_⟩
  simp only [Rep]
  have hlen : ((rows.take b.toNat).drop l.toNat).length = b.toNat - l.toNat := by simp; omega
  refine ⟨_, _, _, rfl, hlen.symm, by omega, fun ha => ?_, ?_⟩
  · split at ha
    · have := hnil ha; omega
    · cases ad with
      | none => have := hnil rfl; omega
      | some a => simp at ha
  · by_cases hz : b.toNat - l.toNat = 0
    · exact .inl (List.eq_nil_of_length_eq_zero (by omega))
    · rcases hrows with rfl | ⟨bb, off, vs, had, hr, cs, T, fz, hk, hs, hp⟩
      · simp at h2; omega
      · right
        have hvl := hr.length
        refine ⟨bb, off + l.toNat * sz, (vs.take b.toNat).drop l.toNat, ?_, (hr.take _).drop _, cs, T, fz, hk, (hs.take _).drop _, ?_⟩
        · rw [if_neg (by omega), had]; simp [Addr.add_mid]
        · have e1 := (flat_split (hs.take b.toNat) l.toNat (by simp; omega)).2
          have e2 := (flat_split hs b.toNat (by omega)).1
          rw [← e1, ← e2, ← List.drop_drop]
          obtain ⟨r, hr'⟩ := hp
          rw [← hr', List.drop_append_of_le_length (by rw [flat_length hs]; exact Nat.mul_le_mul_right _ (by omega))]
          refine List.IsPrefix.trans ?_ (List.prefix_append _ _)
          rw [List.drop_take]
          exact List.take_prefix _ _

theorem ok_sls {eff : Bool} {t e : TypeId} {s : Nat} {x : Operand} {lo hi : Option Operand} {x' : X} {lo' hi' : Option X} (hu : P.underlying t = some (.slice e)) (hs' : szOf P e = some s) (hx : opX P t x = some x') (hl : opXo P lo = some lo') (hh : opXo P hi = some hi') :
    ResOk P gt ⟨dst, .slice t x lo hi none, ty, pos, after, guard⟩ (.sls eff s x' lo' hi') g env bx (stepF gt (.sls eff s x' lo' hi') g env bx) := by
  simp only [stepF]
  cases he : evX env g x' with
  | none => simp [stepSls, ResOk]
  | some d0 =>
    cases d0 <;> try (simp [stepSls, ResOk]; done)
    case ls sz rows =>
      simp only [stepSls]
      split
      · rename_i l h hl' hh'
        refine ResOk.pure ?_
        intro F K pl w a hF hi' hs hg hp
        obtain ⟨rfl, h0, h1, h2⟩ := hp _ (List.mem_singleton.2 rfl)
        have hv := ev_ok (K := K) (pl := pl) hx (fun s h' => hs s (by simp [msl, h'])) hg he
        have hlo := evB_ok (F := F) (w := w) (K := K) (pl := pl) (a := a) hl (fun s h' => hs s (by simp [msl, h'])) hg hl'
        have hhi := evB_ok (F := F) (w := w) (K := K) (pl := pl) (a := a) hh (fun s h' => hs s (by simp [msl, h'])) hg hh'
        obtain ⟨ad, len, cap, hv1, rfl, hc, hrep⟩ := ls_part hv h0 h1 h2
        exact ⟨_, run_slice hu hs' hlo hhi h0 h1 h2 hc w hv1, hrep⟩
      · trivial
    case own k ver =>
      simp only [stepSls]
      split
      · rename_i e' sz' ver' rows hk
        rw [entN_eq] at hk
        split
        · rename_i l h hl' hh'
          intro F K pl w a hF hi' hs hg hp
          obtain ⟨rfl, rfl, h0, h1, h2⟩ := hp _ (List.mem_singleton.2 rfl)
          have hv0 := ev_ok (K := K) (pl := pl) hx (fun s h' => hs s (by simp [msl, h'])) hg he
          obtain ⟨K', g1, g2, g3⟩ := hi'.give hk
          simp only [Rep] at hv0
          have hv := g3 _ hv0.1
          have hlo := evB_ok (F := F) (w := w) (K := K) (pl := pl) (a := a) hl (fun s h' => hs s (by simp [msl, h'])) hg hl'
          have hhi := evB_ok (F := F) (w := w) (K := K) (pl := pl) (a := a) hh (fun s h' => hs s (by simp [msl, h'])) hg hh'
          obtain ⟨ad, len, cap, hv1, rfl, hc, hrep⟩ := ls_part hv h0 h1 h2
          rw [setE_eq]
          exact ⟨_, w, K', pl, .inl (run_slice hu hs' hlo hhi h0 h1 h2 hc w hv1), g1, PLe.refl _, g2, Rep.mono (KLe.refl _) (PLe.zero _) _ _ hrep⟩
        · trivial
      · trivial
    case bsl k base sz' len =>
      simp only [stepSls]
      split
      · rename_i l h hl' hh'
        refine ResOk.pure ?_
        intro F K pl w a hF hi' hs hg hp
        obtain ⟨rfl, h0, h1, h2⟩ := hp _ (List.mem_singleton.2 rfl)
        have hv := ev_ok (K := K) (pl := pl) hx (fun s h' => hs s (by simp [msl, h'])) hg he
        have hlo := evB_ok (F := F) (w := w) (K := K) (pl := pl) (a := a) hl (fun s h' => hs s (by simp [msl, h'])) hg hl'
        have hhi := evB_ok (F := F) (w := w) (K := K) (pl := pl) (a := a) hh (fun s h' => hs s (by simp [msl, h'])) hg hh'
        simp only [Rep] at hv
        obtain ⟨b, o, cap, g1, g2, g3, g4⟩ := hv
        refine ⟨_, run_slice hu hs' hlo hhi h0 h1 h2 g3 w g2, ?_⟩
        simp only [Rep]
        have hlen : (h - l).toNat = h.toNat - l.toNat := by omega
        by_cases hz : cap = l.toNat
        · exact ⟨b, o, cap - l.toNat, g1, by rw [if_pos hz, hlen], by omega, .inl (by omega)⟩
        · refine ⟨b, o + l.toNat * s, cap - l.toNat, g1, by rw [if_neg hz, hlen]; simp [Addr.add_mid], by omega, ?_⟩
          rcases g4 with g4 | g4
          · left; omega
          · right; rw [g4]
      · trivial

theorem run_slarr {t e : TypeId} {sz n : Nat} (hu : P.underlying t = some (.array n e)) (hs : szOf P e = some sz) {b o : Nat} {lo hi : Option Operand} {a : Act} {l h : Int} (hlo : (lo = none ∧ l = 0) ∨ ∃ x k, lo = some x ∧ a.eval x = .int k l) (hhi : (hi = none ∧ h = n) ∨ ∃ x k, hi = some x ∧ a.eval x = .int k h)
    (h0 : 0 ≤ l) (h1 : l ≤ h) (h2 : h ≤ n) (w : World) {x : Operand} (hx : a.eval x = .pointer (some ⟨b, o, none⟩)) :
    (execOp a.eval ⟨dst, .slice t x lo hi none, ty, pos, after, guard⟩).run P w = .ok (.value (.slice (some (if n = l.toNat then ⟨b, o, none⟩ else ⟨b, o + l.toNat * sz, none⟩)) (h.toNat - l.toNat) (n - l.toNat))) w := by
  have hb := run_bounds (P := P) (isSlice := false) (len := n) (cap := n) hlo hhi h0 h1 h2 (Nat.le_refl _) w
  have hsr := run_sizeOf' hs w
  simp [execOp, Instr.sliceAt, Instr.sureAddr, hx, Sem.run_bind, run_underlying hu, hb, hsr, Addr.add_mid]

theorem ok_sla {t e : TypeId} {s n : Nat} {x : Operand} {lo hi : Option Operand} {x' : X} {lo' hi' : Option X} (hu : P.underlying t = some (.array n e)) (hs' : szOf P e = some s) (hx : opX P t x = some x') (hl : opXo P lo = some lo') (hh : opXo P hi = some hi') :
    ResOk P gt ⟨dst, .slice t x lo hi none, ty, pos, after, guard⟩ (.sla n s x' lo' hi') g env bx (stepF gt (.sla n s x' lo' hi') g env bx) := by
  have key : ∀ (k off : Nat) (l h : Int), (∀ (F : Fr) K pl w a, F.gt = gt → Inv F K pl bx w → (∀ s' ∈ msl (.sla n s x' lo' hi'), SlotOk K pl env a s') → holds a g → ∃ b, pl k 0 = some (.pointer (some ⟨b, 0, none⟩)) ∧ a.eval x = .pointer (some ⟨b, off, none⟩)) → evB env g 0 lo' = some l → evB env g n hi' = some h →
      ResOk P gt ⟨dst, .slice t x lo hi none, ty, pos, after, guard⟩ (.sla n s x' lo' hi') g env bx (.ok [0 ≤ l ∧ l ≤ h ∧ h ≤ n] (.bsl k (off + l.toNat * s) s (h - l).toNat) bx) := by
    intro k off l h hb hl' hh'
    refine ResOk.pure ?_
    intro F K pl w a hF hi' hs hg hp
    obtain ⟨h0, h1, h2⟩ := hp _ (List.mem_singleton.2 rfl)
    obtain ⟨b, g1, g2⟩ := hb F K pl w a hF hi' hs hg
    have hlo := evB_ok (F := F) (w := w) (K := K) (pl := pl) (a := a) hl (fun s h' => hs s (by simp [msl, h'])) hg hl'
    have hhi := evB_ok (F := F) (w := w) (K := K) (pl := pl) (a := a) hh (fun s h' => hs s (by simp [msl, h'])) hg hh'
    refine ⟨_, run_slarr hu hs' hlo hhi h0 h1 h2 w g2, ?_⟩
    simp only [Rep]
    have hlen : (h - l).toNat = h.toNat - l.toNat := by omega
    by_cases hz : n = l.toNat
    · exact ⟨b, off, n - l.toNat, g1, by rw [if_pos hz, hlen], by omega, .inl (by omega)⟩
    · exact ⟨b, off + l.toNat * s, n - l.toNat, g1, by rw [if_neg hz, hlen], by omega, .inr rfl⟩
  simp only [stepF]
  cases he : evX env g x' with
  | none => simp [stepSla, ResOk]
  | some d0 =>
    cases d0 <;> try (simp [stepSla, ResOk]; done)
    case box k off =>
      simp only [stepSla]
      split
      · rename_i l h hl' hh'
        refine key k off l h (fun F K pl w a hF hi' hs hg => ?_) hl' hh'
        have hv := ev_ok (K := K) (pl := pl) hx (fun s h' => hs s (by simp [msl, h'])) hg he
        simpa only [Rep] using hv
      · trivial
    case boxi k off =>
      simp only [stepSla]
      split
      · rename_i l h hl' hh'
        refine key k off l h (fun F K pl w a hF hi' hs hg => ?_) hl' hh'
        have hv := ev_ok (K := K) (pl := pl) hx (fun s h' => hs s (by simp [msl, h'])) hg he
        simpa only [Rep] using hv
      · trivial

/-! ### Hints -/
def hinted : M → Bool
  | .mv .. | .bsl .. | .call .. | .callv .. | .sls .. => true
  | _ => false
theorem bare_eq {m m' : M} (h : m' = m.bare) (hh : hinted m' = false) : m = m' := by
  cases m <;> first | exact h.symm | (subst h; simp [M.bare, hinted] at hh)
theorem bare_mv {m : M} {x : X} (h : M.mv false x = m.bare) : ∃ fz, m = .mv fz x := by
  cases m <;> simp [M.bare] at h; subst h; exact ⟨_, rfl⟩
theorem bare_bsl {m : M} {e : TypeId} {sz : Nat} {n : Option Nat} {xs : List X} (h : M.bsl none e sz n xs = m.bare) : ∃ mode, m = .bsl mode e sz n xs := by
  cases m <;> simp [M.bare] at h; obtain ⟨rfl, rfl, rfl, rfl⟩ := h; exact ⟨_, rfl⟩
theorem bare_call {m : M} {f : Nat} {xs : List X} (h : M.call false f xs = m.bare) : ∃ eff, m = .call eff f xs := by
  cases m <;> simp [M.bare] at h; obtain ⟨rfl, rfl⟩ := h; exact ⟨_, rfl⟩
theorem bare_callv {m : M} {x : X} {xs : List X} (h : M.callv false x xs = m.bare) : ∃ eff, m = .callv eff x xs := by
  cases m <;> simp [M.bare] at h; obtain ⟨rfl, rfl⟩ := h; exact ⟨_, rfl⟩
theorem bare_sls {m : M} {sz : Nat} {x : X} {lo hi : Option X} (h : M.sls false sz x lo hi = m.bare) : ∃ eff, m = .sls eff sz x lo hi := by
  cases m <;> simp [M.bare] at h; obtain ⟨rfl, rfl, rfl, rfl⟩ := h; exact ⟨_, rfl⟩

theorem map_some {α β : Type} {f : α → β} {o : Option α} {b : β} (h : o.map f = some b) : ∃ a, o = some a ∧ f a = b := by
  cases o with
  | none => cases h
  | some a => exact ⟨a, rfl, by simpa using h⟩

theorem intKind_some {t : TypeId} {k : IntKind} (h : intKind P t = some k) : P.underlying t = some (.int k) := by
  unfold intKind at h
  split at h
  · rename_i hh; cases h; exact hh
  · cases h

theorem eq_ok {neg : Bool} {op : BinOp} {t yt : TypeId} {x y : Operand} {m : M} (hop : op = (if neg then .neq else .eql)) (hc : compEq P neg t x y = some m.bare) :
    ResOk P gt ⟨dst, .binOp op t x y yt, ty, pos, after, guard⟩ m g env bx (stepF gt m g env bx) := by
  unfold compEq at hc
  cases hx : opX P t x with
  | none => simp [hx] at hc
  | some x' =>
    cases hy : opX P t y with
    | none => simp [hx, hy] at hc
    | some y' =>
      simp only [hx, hy, Option.bind_eq_bind, Option.bind_some] at hc
      split at hc
      · rename_i hu; obtain rfl := bare_eq (Option.some.inj hc) rfl; exact ok_eqb hop (by simpa using hu) hx hy
      · rename_i hu; obtain rfl := bare_eq (Option.some.inj hc) rfl; exact ok_eqb hop (by simpa using hu) hx hy
      · obtain ⟨ks, hk, hm⟩ := map_some hc
        obtain rfl := bare_eq hm rfl
        exact ok_eqS hop hk hx hy
      · cases hc

theorem builtin_ok {b : Builtin} {args : Array Operand} {ts : Array TypeId} {m : M} (hc : compBuiltin P b args.toList ts.toList = some m.bare) :
    ResOk P gt ⟨dst, .call { callee := .builtin b, args := args, argTypes := ts }, ty, pos, after, guard⟩ m g env bx (stepF gt m g env bx) := by
  obtain ⟨args⟩ := args
  obtain ⟨ts⟩ := ts
  simp only at hc
  unfold compBuiltin at hc
  split at hc
  · rename_i x t
    split at hc
    · rename_i e hu
      obtain ⟨x', hx, hm⟩ := map_some hc
      obtain rfl := bare_eq hm rfl
      exact ok_len (by simpa using ⟨e, hu⟩) hx
    · rename_i hu
      obtain ⟨x', hx, hm⟩ := map_some hc
      obtain rfl := bare_eq hm rfl
      exact ok_len (by simpa using hu) hx
    · cases hc
  · rename_i x y t u
    cases h1 : intKind P t <;> simp [h1] at hc
    cases h2 : intKind P u <;> simp [h2] at hc
    cases hx : opX P t x <;> simp [hx] at hc
    cases hy : opX P u y <;> simp [hy] at hc
    obtain rfl := bare_eq hc rfl
    exact ok_mx hx hy
  · rename_i x y t u
    cases h1 : intKind P t <;> simp [h1] at hc
    cases h2 : intKind P u <;> simp [h2] at hc
    cases hx : opX P t x <;> simp [hx] at hc
    cases hy : opX P u y <;> simp [hy] at hc
    obtain rfl := bare_eq hc rfl
    exact ok_mn hx hy
  · rename_i x y t u
    split at hc
    · rename_i e hu
      split at hc
      · rename_i htu
        subst htu
        cases hi : P.info? e <;> simp [hi] at hc
        rename_i i
        cases hz : i.zero <;> simp [hz] at hc
        rename_i z
        obtain ⟨⟨h1, h2, h3⟩, hc⟩ := hc
        cases hx : opX P t x <;> simp [hx] at hc
        cases hy : opX P t y <;> simp [hy] at hc
        obtain rfl := bare_eq hc rfl
        exact ok_app hu hi hz h1 h2 h3 hx hy
      · cases hc
    · cases hc
  · rename_i x y t u
    split at hc
    · rename_i e hu
      split at hc
      · rename_i htu
        subst htu
        cases hi : P.info? e <;> simp [hi] at hc
        rename_i i
        obtain ⟨h1, hc⟩ := hc
        cases hx : opX P t x <;> simp [hx] at hc
        cases hy : opX P t y <;> simp [hy] at hc
        obtain rfl := bare_eq hc rfl
        exact ok_cpy hu hi h1 hx hy
      · cases hc
    · cases hc
  · cases hc

theorem conv_same {s d : TypeId} {x : Operand} (hs : P.underlying s = some .string) (hd : P.underlying d = some .string) {a : Act} {w : World} {b : ByteArray} (hv : a.eval x = .string b) :
    (execOp a.eval ⟨dst, .convert s d x, ty, pos, after, guard⟩).run P w = .ok (.value (a.eval x)) w := by
  simp [execOp, hv, convert, Sem.run_bind, run_underlying hs, run_underlying hd]

theorem m_sound {op : Op} {m : M} (hc : compM P ty op = some m.bare) : ResOk P gt ⟨dst, op, ty, pos, after, guard⟩ m g env bx (stepF gt m g env bx) := by
  unfold compM at hc
  split at hc
  · split at hc
    · obtain ⟨n, _, hm⟩ := map_some hc; obtain rfl := bare_eq hm rfl; exact ok_nilS _ (.inl rfl)
    · cases hc
  · split at hc
    · obtain ⟨n, _, hm⟩ := map_some hc; obtain rfl := bare_eq hm rfl; exact ok_nilS _ (.inr rfl)
    · cases hc
  · obtain ⟨x', hx, hm⟩ := map_some hc; obtain ⟨fz, rfl⟩ := bare_mv hm; exact ok_mv hx _ (fun ρ w => by simp [execOp])
  · obtain ⟨x', hx, hm⟩ := map_some hc; obtain ⟨fz, rfl⟩ := bare_mv hm; exact ok_mv hx _ (fun ρ w => by simp [execOp])
  · split at hc
    · rename_i c' a' b' h1 h2 h3; obtain rfl := bare_eq (Option.some.inj hc) rfl; exact ok_pick h1 h2 h3
    · cases hc
  · obtain ⟨z, hz, hm⟩ := map_some hc; obtain rfl := bare_eq hm rfl; exact ok_alloc hz
  · split at hc
    · rename_i n x' h1 h2; obtain rfl := bare_eq (Option.some.inj hc) rfl; exact ok_box h1 h2
    · cases hc
  · split at hc
    · rename_i z fs hz hu
      split at hc
      · rename_i hall
        obtain ⟨ps, hp, hm⟩ := map_some hc
        obtain rfl := bare_eq hm rfl
        refine ok_bld hz (.inl ⟨fs, hu, hp, fun i f hf => List.all_eq_true.1 hall f ?_⟩)
        exact List.mem_iff_getElem?.2 ⟨i, by simpa using hf⟩
      · cases hc
    · rename_i z n e hz hu
      split at hc
      · rename_i s hs
        obtain ⟨ps, hp, hm⟩ := map_some hc
        obtain rfl := bare_eq hm rfl
        exact ok_bld hz (.inr ⟨n, e, s, hu, hs, hp⟩)
      · cases hc
    · cases hc
  · split at hc
    · rename_i e hu
      split at hc
      · rename_i s a xs h1 h2 h3
        split at hc
        · rename_i hh; obtain ⟨mode, rfl⟩ := bare_bsl (Option.some.inj hc); exact ok_bsl hu h1 h2 h3 hh.1 hh.2.1 hh.2.2.1 hh.2.2.2
        · cases hc
      · cases hc
    · cases hc
  · split at hc
    · rename_i n x' h1 h2; obtain rfl := bare_eq (Option.some.inj hc) rfl; exact ok_ld h1 h2
    · cases hc
  · split at hc
    · rename_i n a' x' h1 h2 h3; obtain rfl := bare_eq (Option.some.inj hc) rfl; exact ok_st h1 h2 h3
    · cases hc
  · split at hc
    · rename_i fs x' hu hx
      split at hc
      · rename_i f hf
        split at hc
        · rename_i n hn; obtain rfl := bare_eq (Option.some.inj hc) rfl; exact ok_fld hu hf hn hx
        · cases hc
      · cases hc
    · cases hc
  · split at hc
    · rename_i e x' i' hu hx hi
      split at hc
      · rename_i s hs; obtain rfl := bare_eq (Option.some.inj hc) rfl; exact ok_ixs hu hs hx hi
      · cases hc
    · rename_i n e x' i' hu hx hi
      split at hc
      · rename_i s hs; obtain rfl := bare_eq (Option.some.inj hc) rfl; exact ok_ixa hu hs hx hi
      · cases hc
    · cases hc
  · split at hc
    · rename_i fs x' hu hx
      split at hc
      · rename_i f hf
        obtain ⟨n, hn, hm⟩ := map_some hc
        obtain rfl := bare_eq hm rfl
        exact ok_part hu hf hn hx
      · cases hc
    · cases hc
  · split at hc
    · rename_i n e x' i' hu hx hi
      split at hc
      · rename_i s a hs ha; obtain rfl := bare_eq (Option.some.inj hc) rfl; exact ok_ixv hu hs ha hx hi
      · cases hc
    · rename_i x' i' hu hx hi; obtain rfl := bare_eq (Option.some.inj hc) rfl; exact ok_sidx hu hx hi
    · cases hc
  · split at hc
    · rename_i k hk
      split at hc
      · rename_i x' y' hx hy; obtain rfl := bare_eq (Option.some.inj hc) rfl; exact ok_bin hk hx hy
      · cases hc
    · split at hc
      · exact eq_ok (neg := false) rfl hc
      · exact eq_ok (neg := true) rfl hc
      · split at hc
        · rename_i x' y' hu hx hy; obtain rfl := bare_eq (Option.some.inj hc) rfl; exact ok_cat hu hx hy
        · cases hc
      · cases hc
  · obtain ⟨x', hx, hm⟩ := map_some hc; obtain rfl := bare_eq hm rfl; exact ok_not hx
  · split at hc
    · rename_i k x' hk hx; obtain rfl := bare_eq (Option.some.inj hc) rfl; exact ok_neg hx
    · cases hc
  · split at hc
    · rename_i k' k x' h1 h2 hx; obtain rfl := bare_eq (Option.some.inj hc) rfl; exact ok_conv h1 h2 hx
    · rename_i x' hx _
      split at hc
      · rename_i e hs hd
        split at hc
        · rename_i he; obtain rfl := bare_eq (Option.some.inj hc) rfl; exact ok_b2s hs (intKind_some he) hd hx
        · cases hc
      · cases hc
    · cases hc
  · obtain ⟨x', hx, hm⟩ := map_some hc; obtain rfl := bare_eq hm rfl; exact ok_chk hx
  · split at hc
    · rename_i h0
      obtain ⟨xs, hx, hm⟩ := map_some hc
      obtain rfl := bare_eq hm rfl
      have := Array.eq_empty_of_size_eq_zero h0
      subst this
      exact ok_clo hx
    · cases hc
  · split at hc
    · rename_i e l' c' hu hl hcc
      split at hc
      · rename_i i z n hi hz hn
        split at hc
        · rename_i hh; obtain rfl := bare_eq (Option.some.inj hc) rfl; exact ok_mks hu hi hz hn hh.1 hh.2.1 hh.2.2 hl hcc
        · cases hc
      · cases hc
    · cases hc
  · split at hc
    · rename_i x' lo' hi' hu hx hl hh; obtain rfl := bare_eq (Option.some.inj hc) rfl; exact ok_sst hu hx hl hh
    · rename_i e x' lo' hi' hu hx hl hh
      split at hc
      · rename_i s hs; obtain ⟨eff, rfl⟩ := bare_sls (Option.some.inj hc); exact ok_sls hu hs hx hl hh
      · cases hc
    · rename_i n e x' lo' hi' hu hx hl hh
      split at hc
      · rename_i s hs; obtain rfl := bare_eq (Option.some.inj hc) rfl; exact ok_sla hu hs hx hl hh
      · cases hc
    · cases hc
  · rename_i c
    obtain ⟨callee, args, ts⟩ := c
    simp only at hc
    split at hc
    · exact builtin_ok hc
    · obtain ⟨xs, hx, hm⟩ := map_some hc
      obtain ⟨eff, rfl⟩ := bare_call hm
      exact ok_call hx
    · obtain ⟨xs, hx, hm⟩ := map_some hc
      obtain ⟨eff, rfl⟩ := bare_callv hm
      exact ok_callv hx
    · cases hc
  · obtain ⟨x', hx, hm⟩ := map_some hc; obtain rfl := bare_eq hm rfl; exact ok_ext hx
  · cases hc
end
end Go.AM
