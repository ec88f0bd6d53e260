/- One operation, kind by kind: the rest. -/
import Derived.Test.YtkcebadfgiknhaaCore8
import Derived.Laws.StructEq
set_option linter.all false
namespace Go.AM
open Go Go.RowKit

section
variable {P : Program} {g : G} {env : Env} {bx : List Ent} {dst : Option Tmp} {ty : TypeId} {pos : String} {after : Array Edge} {guard : Option (Nat × Bool)}

theorem ok_st {t : TypeId} {x y : Operand} {n : Option Nat} {x' y' : X} (hn : aggN P t = some n) (hx : opX P 0 x = some x') (hy : opX P t y = some y') :
    ResOk P ⟨dst, .store t x y, ty, pos, after, guard⟩ (.st n x' y') g env bx (stepF (.st n x' y') g env bx) := by
  simp only [stepF]
  split
  · cases he : evX env [] x' with
    | none => simp [stepSt, ResOk]
    | some d0 =>
      cases hf : evX env [] y' with
      | none => cases d0 <;> simp [stepSt, ResOk]
      | some d =>
        cases d0 <;> try (simp [stepSt, ResOk]; done)
        rename_i k off
        simp only [stepSt]
        split
        · rename_i l hk
          rw [entN_eq] at hk
          split
          · rename_i c hc
            split
            · rename_i l' hl'
              intro B w0 K0 K pl w a hi hs hg hp
              have h1 := ev_ok (K := K) (pl := pl) hx (fun s hs' => hs s (xslL hs')) (holds_nil a) he
              have h2 := ev_ok (K := K) (pl := pl) hy (fun s hs' => hs s (xslR hs')) (holds_nil a) hf
              simp only [Rep] at h1
              obtain ⟨b, h3, h4⟩ := h1
              obtain ⟨h5, h6, h7, h8⟩ := h2.cells hc
              obtain ⟨b', T, cs, h9, h10, h11, h12, h13, h14⟩ := hi.tab.ok k _ hk
              rw [h3] at h9; cases h9
              have hlen := h5.length
              have hsz : (a.eval y).cells.size = n.getD 1 := by
                cases n with
                | none => rw [(h8 rfl).1]; rfl
                | some m => have := (h7 m rfl).1; simp at hlen ⊢; omega
              have hspl : RepL K pl l' (AM.splice cs off (a.eval y).cells.toList) ∧ (∀ u ∈ AM.splice cs off (a.eval y).cells.toList, u.oneCell' = true) ∧ (off + (a.eval y).cells.size ≤ cs.length ∨ (a.eval y).cells.toList = []) := by
                rcases h13.splice off h5 hl' with ⟨h15, h16⟩ | ⟨h15, rfl⟩
                · refine ⟨h15, fun u hu => ?_, .inl (by simpa using h16)⟩
                  rw [splice_eq _ _ _ h16] at hu
                  simp only [List.mem_append] at hu
                  rcases hu with (hu | hu) | hu
                  · exact h14 u (List.mem_of_mem_take hu)
                  · exact h6 u hu
                  · exact h14 u (List.mem_of_mem_drop hu)
                · rw [h15]; exact ⟨by simpa [AM.splice] using h13, by simpa [AM.splice] using h14, .inr rfl⟩
              obtain ⟨h17, h18, h19⟩ := hspl
              rw [setE_eq]
              rcases h19 with h19 | h19
              · refine ⟨undef, _, K, pl, .inr ⟨?_, rfl⟩, KLe.refl _, PLe.refl _, hi.store hk h3 h17 h18, by simp [Rep]⟩
                have := run_store_box hn h12 (v := a.eval y) hsz h6 h19
                simp [execOp, h4, this]
              · refine ⟨undef, _, K, pl, .inr ⟨?_, rfl⟩, KLe.refl _, PLe.refl _, hi.store hk h3 h17 h18, by simp [Rep]⟩
                have hz : (a.eval y).cells.size = 0 := by simpa using congrArg List.length h19
                have hsz' := run_sizeOf' (aggN_size hn) w
                rw [h19]
                simp only [AM.splice]
                rw [setRow_self w b cs.toArray T (0, 0) h12]
                simp [execOp, h4, Instr.storeAt, Instr.sureAddr, storeVar, Sem.run_bind, hsz', ← hsz, h19, storeCells]
            · trivial
          · trivial
        · trivial
  · trivial

theorem run_fieldAt {s : TypeId} {fs : Array Field} {f : Field} {i n : Nat} (hu : P.underlying s = some (.struct fs)) (hf : fs[i]? = some f) (hn : szOf P f.type = some (n + 1)) (b o : Nat) (w : World) :
    (Instr.fieldAt s (.pointer (some ⟨b, o, none⟩)) i).run P w = .ok (.pointer (some ⟨b, o + f.offset, none⟩)) w := by
  simp [Instr.fieldAt, Instr.sureAddr, fieldPlace, Sem.run_bind, run_underlying hu, hf, run_sizeOf' hn, Addr.add_mid]

theorem ok_fld {s : TypeId} {x : Operand} {i n : Nat} {x' : X} {fs : Array Field} {f : Field} (hu : P.underlying s = some (.struct fs)) (hf : fs[i]? = some f) (hn : szOf P f.type = some (n + 1)) (hx : opX P 0 x = some x') :
    ResOk P ⟨dst, .fieldAddr s x i, ty, pos, after, guard⟩ (.fld f.offset x') g env bx (stepF (.fld f.offset x') g env bx) := by
  simp only [stepF]
  split
  · rename_i k o he
    refine ResOk.pure ?_
    intro B w0 K0 K pl w a hi hs hg hp
    have h1 := ev_ok (K := K) (pl := pl) hx hs hg he
    simp only [Rep] at h1
    obtain ⟨b, h2, h3⟩ := h1
    exact ⟨_, by simp [execOp, h3, run_fieldAt hu hf hn]; rfl, by simp only [Rep]; exact ⟨b, h2, rfl⟩⟩
  · rename_i sz l j o he
    refine ResOk.pure ?_
    intro B w0 K0 K pl w a hi hs hg hp
    have h1 := ev_ok (K := K) (pl := pl) hx hs hg he
    simp only [Rep] at h1
    obtain ⟨b, o', vs, h2, h3, h4, h5⟩ := h1
    exact ⟨_, by simp [execOp, h2, run_fieldAt hu hf hn]; rfl, by simp only [Rep]; exact ⟨b, o', vs, by rw [Nat.add_assoc (o' + j * sz)], h3, h4, h5⟩⟩
  · rename_i k v sz j o he
    refine ResOk.pure ?_
    intro B w0 K0 K pl w a hi hs hg hp
    have h1 := ev_ok (K := K) (pl := pl) hx hs hg he
    simp only [Rep] at h1
    obtain ⟨b, n', c, h2, h3⟩ := h1
    exact ⟨_, by simp [execOp, h3, run_fieldAt hu hf hn]; rfl, by simp only [Rep]; exact ⟨b, n', c, h2, by rw [Nat.add_assoc (j * sz)]⟩⟩
  · trivial

theorem run_indexAt {t e : TypeId} {s : Nat} (hu : P.underlying t = some (.slice e)) (hn : szOf P e = some (s + 1)) (b o n c : Nat) (k : IntKind) (i : Int) (h0 : 0 ≤ i) (h1 : i < n) (w : World) :
    (Instr.indexAt t (.slice (some ⟨b, o, none⟩) n c) (.int k i)).run P w = .ok (.pointer (some ⟨b, o + i.toNat * (s + 1), none⟩)) w := by
  simp [Instr.indexAt, asIntOf, Sem.run_bind, run_underlying hu, h0, h1, run_sizeOf' hn, Addr.add_mid]

theorem ok_ixs {t e : TypeId} {s : Nat} {x i : Operand} {x' i' : X} (hu : P.underlying t = some (.slice e)) (hn : szOf P e = some (s + 1)) (hx : opX P t x = some x') (hix : opX P 0 i = some i') :
    ResOk P ⟨dst, .indexAddr t x i, ty, pos, after, guard⟩ (.ixs (s + 1) x' i') g env bx (stepF (.ixs (s + 1) x' i') g env bx) := by
  simp only [stepF]
  cases he : evX env g x' with
  | none => simp [stepIxs, ResOk]
  | some d0 =>
    cases hf : evX env g i' with
    | none => cases d0 <;> simp [stepIxs, ResOk]
    | some d1 =>
      cases d0 <;> try (simp [stepIxs, ResOk]; done)
      case ls sz l =>
        cases d1 <;> try (simp [stepIxs, ResOk]; done)
        rename_i k j
        simp only [stepIxs]
        refine ResOk.pure ?_
        intro B w0 K0 K pl w a hi hs hg hp
        have h1 := ev_ok (K := K) (pl := pl) hx (fun s hs' => hs s (xslL hs')) hg he
        have h2 := ev_ok (K := K) (pl := pl) hix (fun s hs' => hs s (xslR hs')) hg hf
        obtain ⟨rfl, h3, h4⟩ := hp _ (List.mem_singleton.2 rfl)
        simp only [Rep] at h1 h2
        obtain ⟨a', n, c, h5, rfl, _, h6⟩ := h1
        rcases h6 with rfl | ⟨b, off, vs, rfl, h7, h8⟩
        · simp at h4; omega
        · exact ⟨_, by simp only [execOp, h5, h2]; rw [Sem.run_bind, run_indexAt hu hn b off l.length c k j h3 h4]; rfl, by simp only [Rep]; exact ⟨b, off, vs, rfl, by omega, h7, h8⟩⟩
      case own k ver =>
        cases d1 <;> try (simp [stepIxs, ResOk]; done)
        rename_i k' j
        simp only [stepIxs]
        split
        · rename_i ety sz' ver' rows hk
          rw [entN_eq] at hk
          refine ResOk.pure ?_
          intro B w0 K0 K pl w a hi hs hg hp
          have h1 := ev_ok (K := K) (pl := pl) hx (fun s hs' => hs s (xslL hs')) hg he
          have h2 := ev_ok (K := K) (pl := pl) hix (fun s hs' => hs s (xslR hs')) hg hf
          obtain ⟨rfl, rfl, h3, h4⟩ := hp _ (List.mem_singleton.2 rfl)
          simp only [Rep] at h1 h2
          obtain ⟨v, vs, h5, h6, h7, h8, _⟩ := hi.tab.ok k _ hk
          rw [h1.1] at h5; cases h5
          rcases h6.2 with ⟨h9, h10⟩ | ⟨gb, cap, cur, h9, h10, h11, _⟩
          · omega
          · exact ⟨_, by simp only [execOp, h9, h2]; rw [Sem.run_bind, run_indexAt hu hn gb 0 rows.length cap k' j h3 h4]; rfl, by simp only [Rep]; exact ⟨gb, rows.length, cap, by rw [h1.1, h9], by simp⟩⟩
        · trivial

/-- A part of a datum, of a value. -/
theorem run_part {t : TypeId} {n : Option Nat} (h : aggN P t = some n) {K : Kn} {pl : Pl} {w : World} {off : Nat} {l : List D} {cs : List Value} {d : D} (hl : RepL K pl l cs) (h1 : ∀ c ∈ cs, c.oneCell' = true)
    (hd : partD l off n = some d) : ∃ v, (part t cs.toArray off).run P w = .ok v w ∧ Rep K pl d v := by
  cases n with
  | none =>
    simp only [partD, nth_eq] at hd
    obtain ⟨v, hv, hr⟩ := hl.get off hd
    exact ⟨v, by simp [part, Sem.run_bind, run_isAgg' h, hv], hr⟩
  | some n =>
    simp only [partD] at hd
    split at hd
    · rename_i r hr
      cases hd
      rw [dropN_eq] at hr
      obtain ⟨h2, rfl⟩ := takeN_eq _ _ _ hr
      have h3 := (hl.drop off).take n
      have hlen := hl.length
      refine ⟨.agg ((cs.drop off).take n).toArray, ?_, ?_⟩
      · simp [part, Sem.run_bind, run_isAgg' h, run_sizeOf' (aggN_size h), List.take_drop]
      · simp only [Rep]
        exact ⟨_, rfl, h3, fun c hcm => h1 c (List.mem_of_mem_drop (List.mem_of_mem_take hcm))⟩
    · cases hd

theorem ok_part {t : TypeId} {x : Operand} {i : Nat} {n : Option Nat} {x' : X} {fs : Array Field} {f : Field} (hu : P.underlying t = some (.struct fs)) (hf : fs[i]? = some f) (hn : aggN P f.type = some n) (hx : opX P t x = some x') :
    ResOk P ⟨dst, .field t x i, ty, pos, after, guard⟩ (.part f.offset n x') g env bx (stepF (.part f.offset n x') g env bx) := by
  simp only [stepF]
  split
  · rename_i l he
    split
    · rename_i d' hd'
      refine ResOk.pure ?_
      intro B w0 K0 K pl w a hi hs hg hp
      have h1 := ev_ok (K := K) (pl := pl) hx hs hg he
      simp only [Rep] at h1
      obtain ⟨cs, h2, h3, h4⟩ := h1
      obtain ⟨v, h5, h6⟩ := run_part (w := w) hn h3 h4 hd'
      exact ⟨v, by simp [execOp, Instr.field, h2, Sem.run_bind, run_underlying hu, hf, asAgg, h5], h6⟩
    · trivial
  · trivial

theorem ok_ixv {t e : TypeId} {len s : Nat} {n : Option Nat} {x i : Operand} {x' i' : X} (hu : P.underlying t = some (.array len e)) (hs' : szOf P e = some s) (hn : aggN P e = some n) (hx : opX P t x = some x') (hix : opX P 0 i = some i') :
    ResOk P ⟨dst, .index t x i, ty, pos, after, guard⟩ (.ixv len s n x' i') g env bx (stepF (.ixv len s n x' i') g env bx) := by
  simp only [stepF]
  split
  · rename_i l k j he hf
    intro B w0 K0 K pl w a hi hs hg hp d hd
    have h1 := ev_ok (K := K) (pl := pl) hx (fun s hs' => hs s (xslL hs')) hg he
    have h2 := ev_ok (K := K) (pl := pl) hix (fun s hs' => hs s (xslR hs')) hg hf
    obtain ⟨h3, h4⟩ := hp _ (List.mem_singleton.2 rfl)
    simp only [Rep] at h1 h2
    obtain ⟨cs, h5, h6, h7⟩ := h1
    obtain ⟨v, h8, h9⟩ := run_part (w := w) hn h6 h7 hd
    exact ⟨v, by simp [execOp, Instr.index, h5, h2, asIntOf, Sem.run_bind, run_underlying hu, h3, h4, run_sizeOf' hs', h8], h9⟩
  · trivial
end
end Go.AM
