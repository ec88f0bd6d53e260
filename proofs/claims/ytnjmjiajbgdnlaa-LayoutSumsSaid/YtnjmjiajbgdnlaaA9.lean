/- One operation, kind by kind: the rest. -/
import Derived.Test.YtnjmjiajbgdnlaaA8
import Derived.Laws.StructEq
set_option linter.all false
namespace Go.AM
open Go Go.RowKit

mutual
theorem closed_rep {K : Kn} {pl : Pl} : ∀ (d : D) (v : Value), closed d = true → Rep K pl d v → Rep K pl0 d v
  | .int _ _, _, _, h => by simpa [Rep] using h
  | .bool _, _, _, h => by simpa [Rep] using h
  | .str _, _, _, h => by simpa [Rep] using h
  | .ls _ _, _, _, h => by simpa [Rep] using h
  | .agg l, v, hc, h => by
    simp only [Rep] at h ⊢
    obtain ⟨cs, h1, h2, h3⟩ := h
    exact ⟨cs, h1, closedL_rep l cs (by simpa [closed] using hc) h2, h3⟩
  | .tup l, v, hc, h => by
    simp only [Rep] at h ⊢
    obtain ⟨cs, h1, h2⟩ := h
    exact ⟨cs, h1, closedL_rep l cs (by simpa [closed] using hc) h2⟩
  | .mp _ _, _, _, h => by simpa [Rep] using h
  | .nil, _, _, h => by simpa only [Rep] using h
  | .glob _ _, _, _, h => by simpa [Rep] using h
  | .fn f l, v, hc, h => by
    simp only [Rep] at h ⊢
    obtain ⟨cs, h1, h2⟩ := h
    exact ⟨cs, h1, closedL_rep l cs (by simpa [closed] using hc) h2⟩
  | .box _ _, _, hc, _ => by simp [closed] at hc
  | .boxi _ _, _, hc, _ => by simp [closed] at hc
  | .bsl _ _ _ _, _, hc, _ => by simp [closed] at hc
  | .ownm _ _, _, hc, _ => by simp [closed] at hc
  | .own _ _, _, hc, _ => by simp [closed] at hc
  | .el _ _ _ _, _, hc, _ => by simp [closed] at hc
  | .elo _ _ _ _ _, _, hc, _ => by simp [closed] at hc
  | .any, _, hc, _ => by simp [closed] at hc
theorem closedL_rep {K : Kn} {pl : Pl} : ∀ (l : List D) (vs : List Value), closedL l = true → RepL K pl l vs → RepL K pl0 l vs
  | [], _, _, h => by simpa [RepL] using h
  | d :: l, vs, hc, h => by
    simp only [RepL] at h ⊢
    obtain ⟨v, r, h1, h2, h3⟩ := h
    rw [closedL, bA_iff] at hc
    exact ⟨v, r, h1, closed_rep d v hc.1 h2, closedL_rep l r hc.2 h3⟩
end

section
variable {P : Program} {gt : Nat → Option (List D)} {g : G} {env : Env} {bx : List Ent} {dst : Option Tmp} {ty : TypeId} {pos : String} {after : Array Edge} {guard : Option (Nat × Bool)}

theorem RepL.set_one {K : Kn} {pl : Pl} {l l' : List D} {cs us : List Value} {off : Nat} {c : List D} (h13 : RepL K pl l cs) (h14 : ∀ u ∈ cs, u.oneCell' = true) (h5 : RepL K pl c us) (h6 : ∀ u ∈ us, u.oneCell' = true) (hpos : 0 < us.length) (hl' : setL l off c = some l') :
    RepL K pl l' (AM.splice cs off us) ∧ (∀ u ∈ AM.splice cs off us, u.oneCell' = true) ∧ off + us.length ≤ cs.length := by
  rcases h13.splice off h5 hl' with ⟨h15, h16⟩ | ⟨h15, _⟩
  · refine ⟨h15, fun u hu => ?_, h16⟩
    rw [splice_eq _ _ _ h16] at hu
    simp only [List.mem_append] at hu
    rcases hu with (hu | hu) | hu
    · exact h14 u (List.mem_of_mem_take hu)
    · exact h6 u hu
    · exact h14 u (List.mem_of_mem_drop hu)
  · rw [h15] at hpos; simp at hpos

theorem cells_size {t : TypeId} {n : Option Nat} (hn : aggN P t = some n) {K : Kn} {pl : Pl} {d : D} {v : Value} {c : List D} (hr : Rep K pl d v) (hc : cellsD n d = some c) : v.cells.size = n.getD 1 ∧ 0 < v.cells.size := by
  obtain ⟨h5, h6, h7, h8⟩ := hr.cells hc
  have hlen := h5.length
  cases n with
  | none => rw [(h8 rfl).1]; exact ⟨rfl, by simp⟩
  | some m =>
    have h1 := (h7 m rfl).1
    have h2 := aggN_pos hn
    simp at hlen ⊢; omega

/-- A store into an own variable's cells. -/
theorem store_core {F : Fr} {K : Kn} {pl : Pl} {w : World} (hi : Inv F K pl bx w) {t : TypeId} {n : Option Nat} (hn : aggN P t = some n) {k off b : Nat} {l c l' : List D} {d : D} {v : Value} (hk : bx[k]? = some (.cells l)) (h3 : pl k 0 = some (.pointer (some ⟨b, 0, none⟩)))
    (hr : Rep K pl d v) (hc : cellsD n d = some c) (hl' : setL l off c = some l') :
    ∃ w', (Instr.storeAt t (.pointer (some ⟨b, off, none⟩)) v).run P w = .ok () w' ∧ Inv F K pl (bx.set k (.cells l')) w' := by
  obtain ⟨h5, h6, h7, h8⟩ := hr.cells hc
  obtain ⟨b', T, cs, h9, h11, h12, h13, h14⟩ := hi.tab.ok k _ hk
  rw [h3] at h9; cases h9
  obtain ⟨hsz, hpos⟩ := cells_size hn hr hc
  obtain ⟨h17, h18, h19⟩ := RepL.set_one h13 h14 h5 h6 (by simpa using hpos) hl'
  exact ⟨_, run_store_box hn h12 hsz h6 (by simpa using h19), hi.store hk h3 h17 h18⟩

theorem splice_app_left : ∀ (us A B : List Value) (o : Nat), o + us.length ≤ A.length → AM.splice (A ++ B) o us = AM.splice A o us ++ B
  | [], A, B, o, _ => rfl
  | u :: us, A, B, o, h => by
    simp only [AM.splice, List.length_cons] at h ⊢
    rw [List.set_append_left _ _ (by omega)]
    exact splice_app_left us _ B (o + 1) (by simp; omega)
theorem splice_app_right : ∀ (us A B : List Value) (o : Nat), AM.splice (A ++ B) (A.length + o) us = A ++ AM.splice B o us
  | [], A, B, o => rfl
  | u :: us, A, B, o => by
    simp only [AM.splice]
    rw [List.set_append_right _ _ (by omega), Nat.add_sub_cancel_left, Nat.add_assoc]
    exact splice_app_right us A _ (o + 1)

theorem flat_set {sz : Nat} {us : List Value} {v' : Value} : ∀ {vs : List Value} (i off : Nat) {v0 : Value}, sized sz vs → vs[i]? = some v0 → off + us.length ≤ sz → v'.cells.toList = AM.splice v0.cells.toList off us →
    flat (vs.set i v') = AM.splice (flat vs) (i * sz + off) us
  | [], _, _, _, _, h, _, _ => by simp at h
  | v :: vs, 0, off, v0, hs, h, ho, hv => by
    simp at h; subst h
    have h1 : v.cells.toList.length = sz := by simpa using (hs v (by simp)).1
    simp only [List.set_cons_zero, flat, List.flatMap_cons, Nat.zero_mul, Nat.zero_add]
    rw [splice_app_left _ _ _ _ (by omega), hv]
  | v :: vs, i + 1, off, v0, hs, h, ho, hv => by
    have h1 : v.cells.toList.length = sz := by simpa using (hs v (by simp)).1
    have ih := flat_set i off (vs := vs) (fun x hx => hs x (by simp [hx])) (by simpa using h) ho hv
    simp only [flat] at ih
    simp only [List.set_cons_succ, flat, List.flatMap_cons]
    have e : (i + 1) * sz + off = v.cells.toList.length + (i * sz + off) := by rw [h1, Nat.add_mul]; omega
    rw [e, splice_app_right, ih]

theorem splice_take : ∀ (us l : List Value) (o n : Nat), o + us.length ≤ n → n ≤ l.length → (AM.splice l o us).take n = AM.splice (l.take n) o us := fun us l o n h1 h2 => by
  have e : l = l.take n ++ l.drop n := (List.take_append_drop n l).symm
  rw [e, splice_app_left _ _ _ _ (by simp; omega)]
  have hl : (AM.splice (List.take n l) o us).length = n := by
    rw [splice_eq _ _ _ (by simp; omega)]; simp; omega
  rw [List.take_append_of_le_length (by omega), List.take_of_length_le (by omega), ← e]

theorem splice_length (us l : List Value) (o : Nat) (h : o + us.length ≤ l.length) : (AM.splice l o us).length = l.length := by
  rw [splice_eq _ _ _ h]; simp; omega

theorem flat_length {sz : Nat} : ∀ {vs : List Value}, sized sz vs → (flat vs).length = vs.length * sz
  | [], _ => by simp [flat]
  | v :: vs, h => by
    have h1 := (h v (by simp)).1
    have h2 := flat_length (vs := vs) fun x hx => h x (by simp [hx])
    simp only [flat, List.flatMap_cons, List.length_append] at h2 ⊢
    simp [h2, h1, Nat.add_mul]; omega

/-- A store into an own row. -/
theorem store_row {F : Fr} {K : Kn} {pl : Pl} {w : World} (hi : Inv F K pl bx w) {t : TypeId} {n : Option Nat} (hn : aggN P t = some n) {k ver i off b : Nat} {e : TypeId} {sz : Nat} {rows rows' : List D} {d : D} {v : Value} {nn c : Nat} (hk : bx[k]? = some (.arr e sz ver rows)) (h3 : pl k ver = some (.slice (some ⟨b, 0, none⟩) nn c))
    (hr : Rep K pl d v) (hcl : Rep K pl0 d v) (hQ : PutRow rows i off n d rows') :
    ∃ w', (Instr.storeAt t (.pointer (some ⟨b, i * sz + off, none⟩)) v).run P w = .ok () w' ∧ Inv F K pl (bx.set k (.arr e sz ver rows')) w' := by
  obtain ⟨r, r', hri, hput, rfl⟩ := hQ
  obtain ⟨v1, vs, h4, h5, h6, h7, h8, h9⟩ := hi.tab.ok k _ hk
  rw [h3] at h4; cases h4
  rcases h5.2 with ⟨h10, _⟩ | ⟨g', cap, cur, h10, h11, h12, h13, h14, h15, h16⟩
  · cases h10
  cases h10
  obtain ⟨v0, hv0, hr0⟩ := h6.get i hri
  have hs0 := h7 v0 (List.mem_of_getElem? hv0)
  -- the new row
  obtain ⟨v', hv1, hv2, hv3, hv4, hvs⟩ : ∃ v', Rep K pl0 r' v' ∧ (∀ u ∈ v'.cells.toList, u.oneCell' = true) ∧ v'.cells.toList = AM.splice v0.cells.toList off v.cells.toList ∧ off + v.cells.toList.length ≤ sz ∧ (v.cells.size = n.getD 1 ∧ ∀ u ∈ v.cells.toList, u.oneCell' = true) := by
    unfold rowPut at hput
    split at hput
    · rename_i l
      split at hput
      · rename_i c hc
        split at hput
        · rename_i l' hl'
          cases hput
          obtain ⟨g5, g6, g7, g8⟩ := hcl.cells hc
          obtain ⟨hsz, hpos⟩ := cells_size hn hcl hc
          simp only [Rep] at hr0
          obtain ⟨cs0, rfl, hl0, h10⟩ := hr0
          obtain ⟨g9, g10, g11⟩ := RepL.set_one hl0 h10 g5 g6 (by simpa using hpos) hl'
          refine ⟨.agg (AM.splice cs0 off v.cells.toList).toArray, by simp only [Rep]; exact ⟨_, rfl, g9, g10⟩, by simpa [Value.cells] using g10, by simp [Value.cells], ?_, hsz, g6⟩
          have := hs0.1
          simp [Value.cells] at this
          omega
        · cases hput
      · cases hput
    · split at hput
      · rename_i hA hB hC
        cases hput
        obtain ⟨g1, g2⟩ := hr0.one hB
        obtain ⟨g3, g4⟩ := hcl.one hC
        refine ⟨v, hcl, by rw [g3]; simp [g4], by rw [g1, g3]; simp [AM.splice], ?_, by rw [g3]; rfl, by rw [g3]; simp [g4]⟩
        have := hs0.1
        rw [g1] at this
        simp at this
        rw [g3]; simp; omega
      · cases hput
  have hilt : i < vs.length := (List.getElem?_eq_some_iff.1 hv0).1
  have hvl := h6.length
  have hfl : (flat vs).length = vs.length * sz := flat_length h7
  have hbound : i * sz + off + v.cells.toList.length ≤ rows.length * sz := by
    have : (i + 1) * sz ≤ rows.length * sz := Nat.mul_le_mul_right _ (by omega)
    rw [Nat.add_mul] at this; omega
  have hbound2 : rows.length * sz ≤ cur.size := by rw [h15]; exact Nat.mul_le_mul_right _ h13
  have hset := flat_set i off h7 hv0 hv4 hv3
  have hrun := run_store_box (P := P) hn (w := w) (b := b) (o := i * sz + off) (cs := cur.toList) (T := e) (by simpa using h12) (v := v) hvs.1 hvs.2 (by simp at hbound ⊢; omega)
  refine ⟨_, hrun, ?_⟩
  have hvsl : (vs.set i v').length = rows.length := by simp; omega
  refine hi.upd hk (PLe.refl _) (fun _ _ _ => rfl) (fun c hc => .inl ?_) ⟨rfl, rfl, rfl, by simp, fun c hc hn' => setRow_other _ _ _ _ (fun e' => hn' (by simp [entBlk, h3, blkV, e']))⟩ ?_
  · simpa [entBlk] using hc
  · refine ⟨_, vs.set i v', h3, ⟨?_, .inr ⟨b, c, (AM.splice cur.toList (i * sz + off) v.cells.toList).toArray, by simp, h11, ?_, by simpa using h13, h14, ?_, ?_⟩⟩, h6.set i hv1, ?_, h8, h9⟩
    · rw [hset, splice_length _ _ _ (by rw [hfl]; simpa [hvl] using hbound), hfl]; simp [hvl]
    · exact setRow_heap w b _ _ e _ h12
    · rw [List.size_toArray, splice_length _ _ _ (by simp at hbound ⊢; omega)]; simpa using h15
    · simp only [List.length_set]
      rw [splice_take _ _ _ _ hbound (by simpa using hbound2), h16, hset]
    · intro u hu
      rcases List.mem_or_eq_of_mem_set hu with h | rfl
      · exact h7 u h
      · refine ⟨?_, hv2⟩
        have := congrArg List.length hv3
        rw [splice_length _ _ _ (by have := hs0.1; simp at hv4 ⊢; omega)] at this
        simp at this; rw [this]; exact hs0.1

theorem ok_st {t : TypeId} {x y : Operand} {n : Option Nat} {x' y' : X} (hn : aggN P t = some n) (hx : opX P 0 x = some x') (hy : opX P t y = some y') :
    ResOk P gt ⟨dst, .store t x y, ty, pos, after, guard⟩ (.st n x' y') g env bx (stepF gt (.st n x' y') g env bx) := by
  simp only [stepF]
  split
  · cases he : evX env [] x' with
    | none => simp [stepSt, ResOk]
    | some d0 =>
      cases hf : evX env [] y' with
      | none => cases d0 <;> simp [stepSt, ResOk]
      | some d =>
        cases d0 <;> try (simp [stepSt, ResOk]; done)
        case box k off =>
          simp only [stepSt]
          split
          · rename_i l hk
            rw [entN_eq] at hk
            split
            · rename_i c hc
              split
              · rename_i l' hl'
                intro F K pl w a hF hi hs hg hp
                have h1 := ev_ok (K := K) (pl := pl) hx (fun s hs' => hs s (xslL hs')) (holds_nil a) he
                have h2 := ev_ok (K := K) (pl := pl) hy (fun s hs' => hs s (xslR hs')) (holds_nil a) hf
                simp only [Rep] at h1
                obtain ⟨b, h3, h4⟩ := h1
                obtain ⟨w', h5, h6⟩ := store_core hi hn hk h3 h2 hc hl'
                rw [setE_eq]
                exact ⟨undef, w', K, pl, .inr ⟨by simp [execOp, h4, h5], rfl⟩, KLe.refl _, PLe.refl _, h6, by simp [Rep]⟩
              · trivial
            · trivial
          · trivial
        case boxi k off =>
          simp only [stepSt]
          split
          · rename_i l hk
            rw [entN_eq] at hk
            split
            · rename_i c hc
              intro F K pl w a hF hi hs hg hp l' hl'
              have h1 := ev_ok (K := K) (pl := pl) hx (fun s hs' => hs s (xslL hs')) (holds_nil a) he
              have h2 := ev_ok (K := K) (pl := pl) hy (fun s hs' => hs s (xslR hs')) (holds_nil a) hf
              simp only [Rep] at h1
              obtain ⟨b, h3, h4⟩ := h1
              obtain ⟨w', h5, h6⟩ := store_core hi hn hk h3 h2 hc hl'
              simp only [setE_eq]
              exact ⟨undef, w', K, pl, .inr ⟨by simp [execOp, h4, h5], rfl⟩, KLe.refl _, PLe.refl _, h6, by simp [Rep]⟩
            · trivial
          · trivial
        case elo k ver sz i off =>
          simp only [stepSt]
          split
          · rename_i e sz' ver' rows hk
            rw [entN_eq] at hk
            split
            · rename_i hcl
              intro F K pl w a hF hi hs hg hp rows' hQ
              have h1 := ev_ok (K := K) (pl := pl) hx (fun s hs' => hs s (xslL hs')) (holds_nil a) he
              have h2 := ev_ok (K := K) (pl := pl) hy (fun s hs' => hs s (xslR hs')) (holds_nil a) hf
              obtain ⟨rfl, rfl⟩ := hp _ (List.mem_singleton.2 rfl)
              simp only [Rep] at h1
              obtain ⟨b, nn, cc, h3, h4⟩ := h1
              obtain ⟨w', h5, h6⟩ := store_row hi hn hk h3 h2 (closed_rep _ _ hcl h2) hQ
              simp only [setE_eq]
              exact ⟨undef, w', K, pl, .inr ⟨by simp [execOp, h4, h5], rfl⟩, KLe.refl _, PLe.refl _, h6, by simp [Rep]⟩
            · trivial
          · trivial
  · trivial

theorem run_fieldAt {s : TypeId} {fs : Array Field} {f : Field} {i n : Nat} (hu : P.underlying s = some (.struct fs)) (hf : fs[i]? = some f) (hn : szOf P f.type = some (n + 1)) (b o : Nat) (w : World) :
    (Instr.fieldAt s (.pointer (some ⟨b, o, none⟩)) i).run P w = .ok (.pointer (some ⟨b, o + f.offset, none⟩)) w := by
  simp [Instr.fieldAt, Instr.sureAddr, fieldPlace, Sem.run_bind, run_underlying hu, hf, run_sizeOf' hn, Addr.add_mid]

theorem ok_fld {s : TypeId} {x : Operand} {i n : Nat} {x' : X} {fs : Array Field} {f : Field} (hu : P.underlying s = some (.struct fs)) (hf : fs[i]? = some f) (hn : szOf P f.type = some (n + 1)) (hx : opX P 0 x = some x') :
    ResOk P gt ⟨dst, .fieldAddr s x i, ty, pos, after, guard⟩ (.fld f.offset x') g env bx (stepF gt (.fld f.offset x') g env bx) := by
  simp only [stepF]
  split
  · rename_i k o he
    refine ResOk.pure ?_
    intro F K pl w a hF hi hs hg hp
    have h1 := ev_ok (K := K) (pl := pl) hx hs hg he
    simp only [Rep] at h1
    obtain ⟨b, h2, h3⟩ := h1
    exact ⟨_, by simp [execOp, h3, run_fieldAt hu hf hn]; rfl, by simp only [Rep]; exact ⟨b, h2, rfl⟩⟩
  · rename_i k o he
    refine ResOk.pure ?_
    intro F K pl w a hF hi hs hg hp
    have h1 := ev_ok (K := K) (pl := pl) hx hs hg he
    simp only [Rep] at h1
    obtain ⟨b, h2, h3⟩ := h1
    exact ⟨_, by simp [execOp, h3, run_fieldAt hu hf hn]; rfl, by simp only [Rep]; exact ⟨b, h2, rfl⟩⟩
  · rename_i k o he
    refine ResOk.pure ?_
    intro F K pl w a hF hi hs hg hp
    have h1 := ev_ok (K := K) (pl := pl) hx hs hg he
    simp only [Rep] at h1
    exact ⟨_, by simp [execOp, h1, run_fieldAt hu hf hn]; rfl, by simp only [Rep]⟩
  · rename_i sz l j o he
    refine ResOk.pure ?_
    intro F K pl w a hF hi hs hg hp
    have h1 := ev_ok (K := K) (pl := pl) hx hs hg he
    simp only [Rep] at h1
    obtain ⟨b, o', vs, h2, h3, h4, h5⟩ := h1
    exact ⟨_, by simp [execOp, h2, run_fieldAt hu hf hn]; rfl, by simp only [Rep]; exact ⟨b, o', vs, by rw [Nat.add_assoc (o' + j * sz)], h3, h4, h5⟩⟩
  · rename_i k v sz j o he
    refine ResOk.pure ?_
    intro F K pl w a hF hi hs hg hp
    have h1 := ev_ok (K := K) (pl := pl) hx hs hg he
    simp only [Rep] at h1
    obtain ⟨b, n', c, h2, h3⟩ := h1
    exact ⟨_, by simp [execOp, h3, run_fieldAt hu hf hn]; rfl, by simp only [Rep]; exact ⟨b, n', c, h2, by rw [Nat.add_assoc (j * sz)]⟩⟩
  · trivial

theorem run_indexAt {t e : TypeId} {s : Nat} (hu : P.underlying t = some (.slice e)) (hn : szOf P e = some (s + 1)) (b o n c : Nat) (k : IntKind) (i : Int) (h0 : 0 ≤ i) (h1 : i < n) (w : World) :
    (Instr.indexAt t (.slice (some ⟨b, o, none⟩) n c) (.int k i)).run P w = .ok (.pointer (some ⟨b, o + i.toNat * (s + 1), none⟩)) w := by
  simp [Instr.indexAt, asIntOf, Sem.run_bind, run_underlying hu, h0, h1, run_sizeOf' hn, Addr.add_mid]

theorem ok_ixs {t e : TypeId} {s : Nat} {x i : Operand} {x' i' : X} (hu : P.underlying t = some (.slice e)) (hn : szOf P e = some (s + 1)) (hx : opX P t x = some x') (hix : opX P 0 i = some i') :
    ResOk P gt ⟨dst, .indexAddr t x i, ty, pos, after, guard⟩ (.ixs (s + 1) x' i') g env bx (stepF gt (.ixs (s + 1) x' i') g env bx) := by
  simp only [stepF]
  cases he : evX env g x' with
  | none => simp [stepIxs, ResOk]
  | some d0 =>
    cases hf : evX env g i' with
    | none => cases d0 <;> simp [stepIxs, ResOk]
    | some d1 =>
      cases d0 <;> try (simp [stepIxs, ResOk]; done)
      case ls sz l =>
        cases d1 <;> try (simp [stepIxs, ResOk]; done)
        rename_i k j
        simp only [stepIxs]
        refine ResOk.pure ?_
        intro F K pl w a hF hi hs hg hp
        have h1 := ev_ok (K := K) (pl := pl) hx (fun s hs' => hs s (xslL hs')) hg he
        have h2 := ev_ok (K := K) (pl := pl) hix (fun s hs' => hs s (xslR hs')) hg hf
        obtain ⟨rfl, h3, h4⟩ := hp _ (List.mem_singleton.2 rfl)
        simp only [Rep] at h1 h2
        obtain ⟨a', n, c, h5, rfl, _, _, h6⟩ := h1
        rcases h6 with rfl | ⟨b, off, vs, rfl, h7, h8⟩
        · simp at h4; omega
        · exact ⟨_, by simp only [execOp, h5, h2]; rw [Sem.run_bind, run_indexAt hu hn b off l.length c k j h3 h4]; rfl, by simp only [Rep]; exact ⟨b, off, vs, rfl, by omega, h7, h8⟩⟩
      case bsl k base sz len =>
        cases d1 <;> try (simp [stepIxs, ResOk]; done)
        rename_i kk j
        simp only [stepIxs]
        refine ResOk.pure ?_
        intro F K pl w a hF hi hs hg hp
        have h1 := ev_ok (K := K) (pl := pl) hx (fun s hs' => hs s (xslL hs')) hg he
        have h2 := ev_ok (K := K) (pl := pl) hix (fun s hs' => hs s (xslR hs')) hg hf
        obtain ⟨rfl, h3, h4⟩ := hp _ (List.mem_singleton.2 rfl)
        simp only [Rep] at h1 h2
        obtain ⟨b, o, c, h5, h6, h7, h8⟩ := h1
        have ho : o = base := by
          rcases h8 with h8 | h8
          · omega
          · exact h8
        exact ⟨_, by simp only [execOp, h6, h2]; rw [Sem.run_bind, run_indexAt hu hn b o len c kk j h3 h4]; rfl, by simp only [Rep]; exact ⟨b, h5, by rw [ho]⟩⟩
      case own k ver =>
        cases d1 <;> try (simp [stepIxs, ResOk]; done)
        rename_i k' j
        simp only [stepIxs]
        split
        · rename_i ety sz' ver' rows hk
          rw [entN_eq] at hk
          refine ResOk.pure ?_
          intro F K pl w a hF hi hs hg hp
          have h1 := ev_ok (K := K) (pl := pl) hx (fun s hs' => hs s (xslL hs')) hg he
          have h2 := ev_ok (K := K) (pl := pl) hix (fun s hs' => hs s (xslR hs')) hg hf
          obtain ⟨rfl, rfl, h3, h4⟩ := hp _ (List.mem_singleton.2 rfl)
          simp only [Rep] at h1 h2
          obtain ⟨v, vs, h5, h6, h7, h8, _⟩ := hi.tab.ok k _ hk
          rw [h1.1] at h5; cases h5
          rcases h6.2 with ⟨h9, h10⟩ | ⟨gb, cap, cur, h9, h10, h11, _⟩
          · omega
          · exact ⟨_, by simp only [execOp, h9, h2]; rw [Sem.run_bind, run_indexAt hu hn gb 0 rows.length cap k' j h3 h4]; rfl, by simp only [Rep]; exact ⟨gb, rows.length, cap, by rw [h1.1, h9], by simp⟩⟩
        · trivial

theorem run_indexArr {t e : TypeId} {s m : Nat} (hu : P.underlying t = some (.array m e)) (hn : szOf P e = some (s + 1)) (b o : Nat) (k : IntKind) (i : Int) (h0 : 0 ≤ i) (h1 : i < m) (w : World) :
    (Instr.indexAt t (.pointer (some ⟨b, o, none⟩)) (.int k i)).run P w = .ok (.pointer (some ⟨b, o + i.toNat * (s + 1), none⟩)) w := by
  simp [Instr.indexAt, Instr.sureAddr, asIntOf, Sem.run_bind, run_underlying hu, h0, h1, run_sizeOf' hn, Addr.add_mid]

theorem ok_ixa {t e : TypeId} {s m : Nat} {x i : Operand} {x' i' : X} (hu : P.underlying t = some (.array m e)) (hn : szOf P e = some (s + 1)) (hx : opX P t x = some x') (hix : opX P 0 i = some i') :
    ResOk P gt ⟨dst, .indexAddr t x i, ty, pos, after, guard⟩ (.ixa m (s + 1) x' i') g env bx (stepF gt (.ixa m (s + 1) x' i') g env bx) := by
  simp only [stepF]
  cases he : evX env g x' with
  | none => simp [stepIxa, ResOk]
  | some d0 =>
    cases hf : evX env g i' with
    | none => cases d0 <;> simp [stepIxa, ResOk]
    | some d1 =>
      cases d0 <;> try (simp [stepIxa, ResOk]; done)
      all_goals
        cases d1 <;> try (simp [stepIxa, ResOk]; done)
        rename_i kk j
        simp only [stepIxa]
        refine ResOk.pure ?_
        intro F K pl w a hF hi hs hg hp
        have h1 := ev_ok (K := K) (pl := pl) hx (fun s hs' => hs s (xslL hs')) hg he
        have h2 := ev_ok (K := K) (pl := pl) hix (fun s hs' => hs s (xslR hs')) hg hf
        obtain ⟨h3, h4⟩ := hp _ (List.mem_singleton.2 rfl)
        simp only [Rep] at h1 h2
      · obtain ⟨b, h5, h6⟩ := h1
        exact ⟨_, by simp only [execOp, h6, h2]; rw [Sem.run_bind, run_indexArr hu hn _ _ _ _ h3 h4]; rfl, by simp only [Rep]; exact ⟨b, h5, rfl⟩⟩
      · obtain ⟨b, h5, h6⟩ := h1
        exact ⟨_, by simp only [execOp, h6, h2]; rw [Sem.run_bind, run_indexArr hu hn _ _ _ _ h3 h4]; rfl, by simp only [Rep]; exact ⟨b, h5, rfl⟩⟩
      · obtain ⟨b, o', vs, h5, h6, h7, h8⟩ := h1
        exact ⟨_, by simp only [execOp, h5, h2]; rw [Sem.run_bind, run_indexArr hu hn _ _ _ _ h3 h4]; rfl, by simp only [Rep]; exact ⟨b, o', vs, by rw [Nat.add_assoc (o' + _)], h6, h7, h8⟩⟩
      · obtain ⟨b, n', c, h5, h6⟩ := h1
        exact ⟨_, by simp only [execOp, h6, h2]; rw [Sem.run_bind, run_indexArr hu hn _ _ _ _ h3 h4]; rfl, by simp only [Rep]; exact ⟨b, n', c, h5, by rw [Nat.add_assoc]⟩⟩
      · exact ⟨_, by simp only [execOp, h1, h2]; rw [Sem.run_bind, run_indexArr hu hn _ _ _ _ h3 h4]; rfl, by simp only [Rep]⟩

theorem ok_sidx {t : TypeId} {x i : Operand} {x' i' : X} (hu : P.underlying t = some .string) (hx : opX P t x = some x') (hix : opX P 0 i = some i') :
    ResOk P gt ⟨dst, .index t x i, ty, pos, after, guard⟩ (.sidx x' i') g env bx (stepF gt (.sidx x' i') g env bx) := by
  simp only [stepF]
  split
  · rename_i s kk j he hf
    refine ResOk.pure ?_
    intro F K pl w a hF hi hs hg hp
    have h1 := ev_ok (K := K) (pl := pl) hx (fun s hs' => hs s (xslL hs')) hg he
    have h2 := ev_ok (K := K) (pl := pl) hix (fun s hs' => hs s (xslR hs')) hg hf
    obtain ⟨h3, h4⟩ := hp _ (List.mem_singleton.2 rfl)
    simp only [Rep] at h1 h2
    have h5 : j.toNat < s.length := by omega
    have h6 : (⟨s.toArray⟩ : ByteArray)[j.toNat]? = some s[j.toNat] := by
      show (if h : _ then _ else _) = _
      rw [dif_pos (show j.toNat < (⟨s.toArray⟩ : ByteArray).size from h5)]; rfl
    refine ⟨.int .u8 (s[j.toNat].toNat : Int), ?_, by simp only [Rep]; simp [List.getD_eq_getElem?_getD, h5]⟩
    simp only [execOp, h1, h2]
    simp [Instr.index, asIntOf, Sem.run_bind, run_underlying hu, h3, h6]
  · trivial

/-- A part of a datum, of a value. -/
theorem run_part {t : TypeId} {n : Option Nat} (h : aggN P t = some n) {K : Kn} {pl : Pl} {w : World} {off : Nat} {l : List D} {cs : List Value} {d : D} (hl : RepL K pl l cs) (h1 : ∀ c ∈ cs, c.oneCell' = true)
    (hd : partD l off n = some d) : ∃ v, (part t cs.toArray off).run P w = .ok v w ∧ Rep K pl d v := by
  cases n with
  | none =>
    simp only [partD, nth_eq] at hd
    obtain ⟨v, hv, hr⟩ := hl.get off hd
    exact ⟨v, by simp [part, Sem.run_bind, run_isAgg' h, hv], hr⟩
  | some n =>
    simp only [partD] at hd
    split at hd
    · rename_i r hr
      cases hd
      rw [dropN_eq] at hr
      obtain ⟨h2, rfl⟩ := takeN_eq _ _ _ hr
      have h3 := (hl.drop off).take n
      have hlen := hl.length
      refine ⟨.agg ((cs.drop off).take n).toArray, ?_, ?_⟩
      · simp [part, Sem.run_bind, run_isAgg' h, run_sizeOf' (aggN_size h), List.take_drop]
      · simp only [Rep]
        exact ⟨_, rfl, h3, fun c hcm => h1 c (List.mem_of_mem_drop (List.mem_of_mem_take hcm))⟩
    · cases hd

theorem ok_part {t : TypeId} {x : Operand} {i : Nat} {n : Option Nat} {x' : X} {fs : Array Field} {f : Field} (hu : P.underlying t = some (.struct fs)) (hf : fs[i]? = some f) (hn : aggN P f.type = some n) (hx : opX P t x = some x') :
    ResOk P gt ⟨dst, .field t x i, ty, pos, after, guard⟩ (.part f.offset n x') g env bx (stepF gt (.part f.offset n x') g env bx) := by
  simp only [stepF]
  split
  · rename_i l he
    split
    · rename_i d' hd'
      refine ResOk.pure ?_
      intro F K pl w a hF hi hs hg hp
      have h1 := ev_ok (K := K) (pl := pl) hx hs hg he
      simp only [Rep] at h1
      obtain ⟨cs, h2, h3, h4⟩ := h1
      obtain ⟨v, h5, h6⟩ := run_part (w := w) hn h3 h4 hd'
      exact ⟨v, by simp [execOp, Instr.field, h2, Sem.run_bind, run_underlying hu, hf, asAgg, h5], h6⟩
    · trivial
  · trivial

theorem ok_ixv {t e : TypeId} {len s : Nat} {n : Option Nat} {x i : Operand} {x' i' : X} (hu : P.underlying t = some (.array len e)) (hs' : szOf P e = some s) (hn : aggN P e = some n) (hx : opX P t x = some x') (hix : opX P 0 i = some i') :
    ResOk P gt ⟨dst, .index t x i, ty, pos, after, guard⟩ (.ixv len s n x' i') g env bx (stepF gt (.ixv len s n x' i') g env bx) := by
  simp only [stepF]
  split
  · rename_i l k j he hf
    intro F K pl w a hF hi hs hg hp d hd
    have h1 := ev_ok (K := K) (pl := pl) hx (fun s hs' => hs s (xslL hs')) hg he
    have h2 := ev_ok (K := K) (pl := pl) hix (fun s hs' => hs s (xslR hs')) hg hf
    obtain ⟨h3, h4⟩ := hp _ (List.mem_singleton.2 rfl)
    simp only [Rep] at h1 h2
    obtain ⟨cs, h5, h6, h7⟩ := h1
    obtain ⟨v, h8, h9⟩ := run_part (w := w) hn h6 h7 hd
    exact ⟨v, by simp [execOp, Instr.index, h5, h2, asIntOf, Sem.run_bind, run_underlying hu, h3, h4, run_sizeOf' hs', h8], h9⟩
  · trivial
end
end Go.AM
