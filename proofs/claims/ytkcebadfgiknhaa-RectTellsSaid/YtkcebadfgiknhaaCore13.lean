/- Any operation; a region in the text's order. -/
import Derived.Test.YtkcebadfgiknhaaCore12
set_option linter.all false
namespace Go.AM
open Go Go.RowKit

section
variable {P : Program} {g : G} {env : Env} {bx : List Ent} {dst : Option Tmp} {ty : TypeId} {pos : String} {after : Array Edge} {guard : Option (Nat × Bool)}

theorem map_some {α β : Type} {f : α → β} {o : Option α} {b : β} (h : o.map f = some b) : ∃ a, o = some a ∧ f a = b := by
  cases o with
  | none => cases h
  | some a => exact ⟨a, rfl, by simpa using h⟩

theorem intKind_some {t : TypeId} {k : IntKind} (h : intKind P t = some k) : P.underlying t = some (.int k) := by
  unfold intKind at h
  split at h
  · rename_i hh; cases h; exact hh
  · cases h

theorem eq_ok {neg : Bool} {op : BinOp} {t yt : TypeId} {x y : Operand} {m : M} (hop : op = (if neg then .neq else .eql)) (hc : compEq P neg t x y = some m) :
    ResOk P ⟨dst, .binOp op t x y yt, ty, pos, after, guard⟩ m g env bx (stepF m g env bx) := by
  unfold compEq at hc
  cases hx : opX P t x with
  | none => simp [hx] at hc
  | some x' =>
    cases hy : opX P t y with
    | none => simp [hx, hy] at hc
    | some y' =>
      simp only [hx, hy, Option.bind_eq_bind, Option.bind_some] at hc
      split at hc
      · rename_i hu; cases hc; exact ok_eqb hop (by simpa using hu) hx hy
      · rename_i hu; cases hc; exact ok_eqb hop (by simpa using hu) hx hy
      · obtain ⟨ks, hk, rfl⟩ := map_some hc
        exact ok_eqS hop hk hx hy
      · cases hc

theorem builtin_ok {b : Builtin} {args : Array Operand} {ts : Array TypeId} {m : M} (hc : compBuiltin P b args.toList ts.toList = some m) :
    ResOk P ⟨dst, .call { callee := .builtin b, args := args, argTypes := ts }, ty, pos, after, guard⟩ m g env bx (stepF m g env bx) := by
  obtain ⟨args⟩ := args
  obtain ⟨ts⟩ := ts
  simp only at hc
  unfold compBuiltin at hc
  split at hc
  · rename_i x t
    split at hc
    · rename_i e hu
      obtain ⟨x', hx, rfl⟩ := map_some hc
      exact ok_len (by simpa using ⟨e, hu⟩) hx
    · rename_i hu
      obtain ⟨x', hx, rfl⟩ := map_some hc
      exact ok_len (by simpa using hu) hx
    · cases hc
  · rename_i x y t u
    cases h1 : intKind P t <;> simp [h1] at hc
    cases h2 : intKind P u <;> simp [h2] at hc
    cases hx : opX P t x <;> simp [hx] at hc
    cases hy : opX P u y <;> simp [hy] at hc
    subst hc
    exact ok_mx hx hy
  · rename_i x y t u
    cases h1 : intKind P t <;> simp [h1] at hc
    cases h2 : intKind P u <;> simp [h2] at hc
    cases hx : opX P t x <;> simp [hx] at hc
    cases hy : opX P u y <;> simp [hy] at hc
    subst hc
    exact ok_mn hx hy
  · rename_i x y t u
    split at hc
    · rename_i e hu
      split at hc
      · rename_i htu
        subst htu
        cases hi : P.info? e <;> simp [hi] at hc
        rename_i i
        cases hz : i.zero <;> simp [hz] at hc
        rename_i z
        obtain ⟨⟨h1, h2, h3⟩, hc⟩ := hc
        cases hx : opX P t x <;> simp [hx] at hc
        cases hy : opX P t y <;> simp [hy] at hc
        subst hc
        exact ok_app hu hi hz h1 h2 h3 hx hy
      · cases hc
    · cases hc
  · cases hc

theorem m_sound {op : Op} {m : M} (hc : compM P ty op = some m) : ResOk P ⟨dst, op, ty, pos, after, guard⟩ m g env bx (stepF m g env bx) := by
  unfold compM at hc
  split at hc
  · split at hc
    · obtain ⟨n, _, rfl⟩ := map_some hc; exact ok_nilS _ (.inl rfl)
    · cases hc
  · split at hc
    · obtain ⟨n, _, rfl⟩ := map_some hc; exact ok_nilS _ (.inr rfl)
    · cases hc
  · obtain ⟨x', hx, rfl⟩ := map_some hc; exact ok_mv hx _ (.inl rfl)
  · obtain ⟨x', hx, rfl⟩ := map_some hc; exact ok_mv hx _ (.inr rfl)
  · split at hc
    · rename_i c' a' b' h1 h2 h3; cases hc; exact ok_pick h1 h2 h3
    · cases hc
  · obtain ⟨z, hz, rfl⟩ := map_some hc; exact ok_alloc hz
  · split at hc
    · rename_i n x' h1 h2; cases hc; exact ok_box h1 h2
    · cases hc
  · split at hc
    · rename_i z fs hz hu
      split at hc
      · rename_i hall
        obtain ⟨ps, hp, rfl⟩ := map_some hc
        refine ok_bld hz (.inl ⟨fs, hu, hp, fun i f hf => List.all_eq_true.1 hall f ?_⟩)
        exact List.mem_iff_getElem?.2 ⟨i, by simpa using hf⟩
      · cases hc
    · rename_i z n e hz hu
      split at hc
      · rename_i s hs
        obtain ⟨ps, hp, rfl⟩ := map_some hc
        exact ok_bld hz (.inr ⟨n, e, s, hu, hs, hp⟩)
      · cases hc
    · cases hc
  · split at hc
    · rename_i e hu
      split at hc
      · rename_i s a xs h1 h2 h3
        split at hc
        · rename_i hh; cases hc; exact ok_bsl hu h1 h2 h3 hh.1 hh.2.1 hh.2.2.1 hh.2.2.2
        · cases hc
      · cases hc
    · cases hc
  · split at hc
    · rename_i n x' h1 h2; cases hc; exact ok_ld h1 h2
    · cases hc
  · split at hc
    · rename_i n a' x' h1 h2 h3; cases hc; exact ok_st h1 h2 h3
    · cases hc
  · split at hc
    · rename_i fs x' hu hx
      split at hc
      · rename_i f hf
        split at hc
        · rename_i n hn; cases hc; exact ok_fld hu hf hn hx
        · cases hc
      · cases hc
    · cases hc
  · split at hc
    · rename_i e x' i' hu hx hi
      split at hc
      · rename_i s hs; cases hc; exact ok_ixs hu hs hx hi
      · cases hc
    · cases hc
  · split at hc
    · rename_i fs x' hu hx
      split at hc
      · rename_i f hf
        obtain ⟨n, hn, rfl⟩ := map_some hc
        exact ok_part hu hf hn hx
      · cases hc
    · cases hc
  · split at hc
    · rename_i n e x' i' hu hx hi
      split at hc
      · rename_i s a hs ha; cases hc; exact ok_ixv hu hs ha hx hi
      · cases hc
    · cases hc
  · split at hc
    · rename_i k hk
      split at hc
      · rename_i x' y' hx hy; cases hc; exact ok_bin hk hx hy
      · cases hc
    · split at hc
      · exact eq_ok (neg := false) rfl hc
      · exact eq_ok (neg := true) rfl hc
      · cases hc
  · obtain ⟨x', hx, rfl⟩ := map_some hc; exact ok_not hx
  · split at hc
    · rename_i k x' hk hx; cases hc; exact ok_neg hx
    · cases hc
  · split at hc
    · rename_i k' k x' h1 h2 hx; cases hc; exact ok_conv h1 h2 hx
    · cases hc
  · rename_i c
    obtain ⟨callee, args, ts⟩ := c
    simp only at hc
    split at hc
    · exact builtin_ok hc
    · split at hc
      · rename_i fn hf
        split at hc
        · rename_i hh
          obtain ⟨xs, hx, rfl⟩ := map_some hc
          exact ok_call hf hh.1 hh.2 hx
        · cases hc
      · cases hc
    · cases hc
  · obtain ⟨x', hx, rfl⟩ := map_some hc; exact ok_ext hx
  · cases hc
end
end Go.AM
