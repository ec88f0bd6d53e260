import Derived.Test.YtoaialdcgmkbgaaGreatRA8
import Derived.Laws.StructEq
import Derived.Laws.OwnMore
import Derived.Laws.MakeOwn

set_option linter.all false
namespace Go.AM
open Go Go.RowKit
section
variable {P : Program} {gt : Nat -> Option (List D)} {g : G} {env : x4} {bx : List Ent} {dst : Option Tmp} {ty : TypeId} {pos : String} {after : Array Edge} {guard : Option (Nat × Bool)}
theorem RepL.set_one {K : Kn} {pl : Pl} {l l' : List D} {cs us : List Value} {off : Nat} {c : List D} (h13 : RepL K pl l cs) (h14 : ∀ u ∈ cs, u.oneCell' = true) (h5 : RepL K pl c us) (h6 : ∀ u ∈ us, u.oneCell' = true) (hpos : 0 < us.length) (hl' : kd l off c = some l') :
  RepL K pl l' (AM.splice cs off us) /\ (∀ u ∈ AM.splice cs off us, u.oneCell' = true) /\ off + us.length <= cs.length := by
 rcases h13.splice off h5 hl' with ⟨h15, h16⟩ | ⟨h15, _⟩
 ·refine ⟨h15, fun u hu => ?_, h16⟩
  rw [xF _ _ _ h16] at hu
  simp only [List.mem_append] at hu
  rcases hu with (hu | hu) | hu
  ·exact h14 u (List.mem_of_mem_take hu)
  ·exact h6 u hu
  ·exact h14 u (List.mem_of_mem_drop hu)
 ·rw [h15] at hpos; simp at hpos
theorem ju9 {t : TypeId} {n : Option Nat} (hn : ve P t = some n) {K : Kn} {pl : Pl} {d : D} {v : Value} {c : List D} (hr : Rep K pl d v) (hc : jH n d = some c) : v.cells.size = n.getD 1 /\ 0 < v.cells.size := by
 obtain ⟨h5, h6, h7, h8⟩ := hr.cells hc
 have hlen := h5.length
 cases n with
 | none => rw [(h8 rfl).1]; exact ⟨rfl, by simp⟩
 | some m =>
   have h1 := (h7 m rfl).1
   have h2 := jX5 hn
   simp at hlen |-; omega
theorem jn1 {F : Fr} {K : Kn} {pl : Pl} {w : World} (hi : Inv F K pl bx w) {t : TypeId} {n : Option Nat} (hn : ve P t = some n) {k off b : Nat} {l c l' : List D} {d : D} {v : Value} (hk : bx[k]? = some (.cells l)) (h3 : pl k 0 = some (.pointer (some ⟨b, 0, none⟩)))
  (hr : Rep K pl d v) (hc : jH n d = some c) (hl' : kd l off c = some l') :
  ∃ w', (Instr.storeAt t (.pointer (some ⟨b, off, none⟩)) v).run P w = .ok () w' /\ Inv F K pl (bx.set k (.cells l')) w' := by
 obtain ⟨h5, h6, h7, h8⟩ := hr.cells hc
 obtain ⟨b', T, cs, h9, h11, h12, h13, h14⟩ := hi.tab.ok k _ hk
 rw [h3] at h9; cases h9
 obtain ⟨hsz, hpos⟩ := ju9 hn hr hc
 obtain ⟨h17, h18, h19⟩ := RepL.set_one h13 h14 h5 h6 (by simpa using hpos) hl'
 exact ⟨_, VE hn h12 hsz h6 (by simpa using h19), hi.store hk h3 h17 h18⟩
theorem yp : ∀ (us A B : List Value) (o : Nat), o + us.length <= A.length -> AM.splice (A ++ B) o us = AM.splice A o us ++ B
 | [], A, B, o, _ => rfl
 | u :: us, A, B, o, h => by
   simp only [AM.splice, List.length_cons] at h |-
   rw [List.set_append_left _ _ (by omega)]
   exact yp us _ B (o + 1) (by simp; omega)
theorem JV : ∀ (us A B : List Value) (o : Nat), AM.splice (A ++ B) (A.length + o) us = A ++ AM.splice B o us
 | [], A, B, o => rfl
 | u :: us, A, B, o => by
   simp only [AM.splice]
   rw [List.set_append_right _ _ (by omega), Nat.add_sub_cancel_left, Nat.add_assoc]
   exact JV us A _ (o + 1)
theorem jV0 {sz : Nat} {us : List Value} {v' : Value} : ∀ {vs : List Value} (i off : Nat) {v0 : Value}, sized sz vs -> vs[i]? = some v0 -> off + us.length <= sz -> v'.cells.toList = AM.splice v0.cells.toList off us ->
  qa (vs.set i v') = AM.splice (qa vs) (i * sz + off) us
 | [], _, _, _, _, h, _, _ => by simp at h
 | v :: vs, 0, off, v0, hs, h, ho, hv => by
   simp at h; subst h
   have h1 : v.cells.toList.length = sz := by simpa using (hs v (by simp)).1
   simp only [List.set_cons_zero, qa, List.flatMap_cons, Nat.zero_mul, Nat.zero_add]
   rw [yp _ _ _ _ (by omega), hv]
 | v :: vs, i + 1, off, v0, hs, h, ho, hv => by
   have h1 : v.cells.toList.length = sz := by simpa using (hs v (by simp)).1
   have ih := jV0 i off (vs := vs) (fun x hx => hs x (by simp [hx])) (by simpa using h) ho hv
   simp only [qa] at ih
   simp only [List.set_cons_succ, qa, List.flatMap_cons]
   have e : (i + 1) * sz + off = v.cells.toList.length + (i * sz + off) := by rw [h1, Nat.add_mul]; omega
   rw [e, JV, ih]
theorem jO7 : ∀ (us l : List Value) (o n : Nat), o + us.length <= n -> n <= l.length -> (AM.splice l o us).take n = AM.splice (l.take n) o us := fun us l o n h1 h2 => by
 have e : l = l.take n ++ l.drop n := (List.take_append_drop n l).symm
 rw [e, yp _ _ _ _ (by simp; omega)]
 have hl : (AM.splice (List.take n l) o us).length = n := by
  rw [xF _ _ _ (by simp; omega)]; simp; omega
 rw [List.take_append_of_le_length (by omega), List.take_of_length_le (by omega), <- e]
theorem JF (us l : List Value) (o : Nat) (h : o + us.length <= l.length) : (AM.splice l o us).length = l.length := by
 rw [xF _ _ _ h]; simp; omega
theorem qu {sz : Nat} : ∀ {vs : List Value}, sized sz vs -> (qa vs).length = vs.length * sz
 | [], _ => by simp [qa]
 | v :: vs, h => by
   have h1 := (h v (by simp)).1
   have h2 := qu (vs := vs) fun x hx => h x (by simp [hx])
   simp only [qa, List.flatMap_cons, List.length_append] at h2 |-
   simp [h2, h1, Nat.add_mul]; omega
theorem kl6 {F : Fr} {K : Kn} {pl : Pl} {w : World} (hi : Inv F K pl bx w) {t : TypeId} {n : Option Nat} (hn : ve P t = some n) {k ver i off b : Nat} {e : TypeId} {sz : Nat} {rows rows' : List D} {d : D} {v : Value} {nn c : Nat} (hk : bx[k]? = some (.arr e sz ver rows)) (h3 : pl k ver = some (.slice (some ⟨b, 0, none⟩) nn c))
  (hr : Rep K pl d v) (hcl : Rep K vK d v) (hQ : ke9 rows i off n d rows') :
  ∃ w', (Instr.storeAt t (.pointer (some ⟨b, i * sz + off, none⟩)) v).run P w = .ok () w' /\ Inv F K pl (bx.set k (.arr e sz ver rows')) w' := by
 obtain ⟨r, r', hri, hput, rfl⟩ := hQ
 obtain ⟨v1, vs, h4, h5, h6, h7, h8, h9⟩ := hi.tab.ok k _ hk
 rw [h3] at h4; cases h4
 rcases h5.2 with ⟨h10, _⟩ | ⟨g', cap, cur, h10, h11, h12, h13, h14, h15, h16⟩
 ·cases h10
 cases h10
 obtain ⟨v0, hv0, hr0⟩ := h6.get i hri
 have hs0 := h7 v0 (List.mem_of_getElem? hv0)
 -- the new row
 obtain ⟨v', hv1, hv2, hv3, hv4, hvs⟩ : ∃ v', Rep K vK r' v' /\ (∀ u ∈ v'.cells.toList, u.oneCell' = true) /\ v'.cells.toList = AM.splice v0.cells.toList off v.cells.toList /\ off + v.cells.toList.length <= sz /\ (v.cells.size = n.getD 1 /\ ∀ u ∈ v.cells.toList, u.oneCell' = true) := by
  unfold ka4 at hput
  split at hput
  ·rename_i l
   split at hput
   ·rename_i c hc
    split at hput
    ·rename_i l' hl'
     cases hput
     obtain ⟨g5, g6, g7, g8⟩ := hcl.cells hc
     obtain ⟨hsz, hpos⟩ := ju9 hn hcl hc
     simp only [Rep] at hr0
     obtain ⟨cs0, rfl, hl0, h10⟩ := hr0
     obtain ⟨g9, g10, g11⟩ := RepL.set_one hl0 h10 g5 g6 (by simpa using hpos) hl'
     refine ⟨.agg (AM.splice cs0 off v.cells.toList).toArray, by simp only [Rep]; exact ⟨_, rfl, g9, g10⟩, by simpa [Value.cells] using g10, by simp [Value.cells], ?_, hsz, g6⟩
     have := hs0.1
     simp [Value.cells] at this
     omega
    ·cases hput
   ·cases hput
  ·split at hput
   ·rename_i hA hB hC
    cases hput
    obtain ⟨g1, g2⟩ := hr0.one hB
    obtain ⟨g3, g4⟩ := hcl.one hC
    refine ⟨v, hcl, by rw [g3]; simp [g4], by rw [g1, g3]; simp [AM.splice], ?_, by rw [g3]; rfl, by rw [g3]; simp [g4]⟩
    have := hs0.1
    rw [g1] at this
    simp at this
    rw [g3]; simp; omega
   ·cases hput
 have hilt : i < vs.length := (List.getElem?_eq_some_iff.1 hv0).1
 have hvl := h6.length
 have hfl : (qa vs).length = vs.length * sz := qu h7
 have hbound : i * sz + off + v.cells.toList.length <= rows.length * sz := by
  have : (i + 1) * sz <= rows.length * sz := Nat.mul_le_mul_right _ (by omega)
  rw [Nat.add_mul] at this; omega
 have hbound2 : rows.length * sz <= cur.size := by rw [h15]; exact Nat.mul_le_mul_right _ h13
 have hset := jV0 i off h7 hv0 hv4 hv3
 have hrun := VE (P := P) hn (w := w) (b := b) (o := i * sz + off) (cs := cur.toList) (T := e) (by simpa using h12) (v := v) hvs.1 hvs.2 (by simp at hbound |-; omega)
 refine ⟨_, hrun, ?_⟩
 have hvsl : (vs.set i v').length = rows.length := by simp; omega
 refine hi.upd hk (PLe.refl _) (fun _ _ _ => rfl) (fun c hc => .inl ?_) ⟨rfl, rfl, rfl, by simp, fun c hc hn' => setRow_other _ _ _ _ (fun e' => hn' (by simp [jW, h3, vj, e']))⟩ ?_
 ·simpa [jW] using hc
 ·refine ⟨_, vs.set i v', h3, ⟨?_, .inr ⟨b, c, (AM.splice cur.toList (i * sz + off) v.cells.toList).toArray, by simp, h11, ?_, by simpa using h13, h14, ?_, ?_⟩⟩, h6.set i hv1, ?_, h8, h9.1, fun e0 e1 => h9.2 e0 (by simpa using e1)⟩
  ·rw [hset, JF _ _ _ (by rw [hfl]; simpa [hvl] using hbound), hfl]; simp [hvl]
  ·exact setRow_heap w b _ _ e _ h12
  ·rw [List.size_toArray, JF _ _ _ (by simp at hbound |-; omega)]; simpa using h15
  ·simp only [List.length_set]
   rw [jO7 _ _ _ _ hbound (by simpa using hbound2), h16, hset]
  ·intro u hu
   rcases List.mem_or_eq_of_mem_set hu with h | rfl
   ·exact h7 u h
   ·refine ⟨?_, hv2⟩
    have := congrArg List.length hv3
    rw [JF _ _ _ (by have := hs0.1; simp at hv4 |-; omega)] at this
    simp at this; rw [this]; exact hs0.1
theorem ok_st {t : TypeId} {x y : Operand} {n : Option Nat} {x' y' : X} (hn : ve P t = some n) (hx : qm P 0 x = some x') (hy : qm P t y = some y') :
  ResOk P gt ⟨dst, .store t x y, ty, pos, after, guard⟩ (.st n x' y') g env bx (jl gt (.st n x' y') g env bx) := by
 simp only [jl]
 split
 ·cases he : jL env [] x' with
  | none => simp [jJ, ResOk]
  | some d0 =>
    cases hf : jL env [] y' with
    | none => cases d0 <;> simp [jJ, ResOk]
    | some d =>
      cases d0 <;> try (simp [jJ, ResOk]; done)
      case box k off =>
       simp only [jJ]
       split
       ·rename_i l hk
        rw [kG] at hk
        split
        ·rename_i c hc
         split
         ·rename_i l' hl'
          intro F K pl w a hF hi hs hg hp
          have h1 := kI (K := K) (pl := pl) hx (fun s hs' => hs s (JA hs')) (kF a) he
          have h2 := kI (K := K) (pl := pl) hy (fun s hs' => hs s (Jz hs')) (kF a) hf
          simp only [Rep] at h1
          obtain ⟨b, h3, h4⟩ := h1
          obtain ⟨w', h5, h6⟩ := jn1 hi hn hk h3 h2 hc hl'
          rw [qF]
          exact ⟨undef, w', K, pl, .inr ⟨by simp [execOp, h4, h5], rfl⟩, KLe.refl _, PLe.refl _, h6, by simp [Rep]⟩
         ·trivial
        ·trivial
       ·trivial
      case boxi k off =>
       simp only [jJ]
       split
       ·rename_i l hk
        rw [kG] at hk
        split
        ·rename_i c hc
         intro F K pl w a hF hi hs hg hp l' hl'
         have h1 := kI (K := K) (pl := pl) hx (fun s hs' => hs s (JA hs')) (kF a) he
         have h2 := kI (K := K) (pl := pl) hy (fun s hs' => hs s (Jz hs')) (kF a) hf
         simp only [Rep] at h1
         obtain ⟨b, h3, h4⟩ := h1
         obtain ⟨w', h5, h6⟩ := jn1 hi hn hk h3 h2 hc hl'
         simp only [qF]
         exact ⟨undef, w', K, pl, .inr ⟨by simp [execOp, h4, h5], rfl⟩, KLe.refl _, PLe.refl _, h6, by simp [Rep]⟩
        ·trivial
       ·trivial
      case elo k ver sz i off =>
       simp only [jJ]
       split
       ·rename_i e sz' ver' rows hk
        rw [kG] at hk
        split
        ·rename_i hcl
         intro F K pl w a hF hi hs hg hp rows' hQ
         have h1 := kI (K := K) (pl := pl) hx (fun s hs' => hs s (JA hs')) (kF a) he
         have h2 := kI (K := K) (pl := pl) hy (fun s hs' => hs s (Jz hs')) (kF a) hf
         obtain ⟨rfl, rfl⟩ := hp _ (List.mem_singleton.2 rfl)
         simp only [Rep] at h1
         obtain ⟨b, nn, cc, h3, h4⟩ := h1
         obtain ⟨w', h5, h6⟩ := kl6 hi hn hk h3 h2 (Qg _ _ hcl h2) hQ
         simp only [qF]
         exact ⟨undef, w', K, pl, .inr ⟨by simp [execOp, h4, h5], rfl⟩, KLe.refl _, PLe.refl _, h6, by simp [Rep]⟩
        ·trivial
       ·trivial
 ·trivial
theorem x7 {s : TypeId} {fs : Array Field} {f : Field} {i n : Nat} (hu : P.underlying s = some (.struct fs)) (hf : fs[i]? = some f) (hn : zl P f.type = some (n + 1)) (b o : Nat) (w : World) :
  (Instr.fieldAt s (.pointer (some ⟨b, o, none⟩)) i).run P w = .ok (.pointer (some ⟨b, o + f.offset, none⟩)) w := by
 simp [Instr.fieldAt, Instr.sureAddr, fieldPlace, Sem.run_bind, run_underlying hu, hf, qW hn, Addr.add_mid]
theorem kR7 {s : TypeId} {x : Operand} {i n : Nat} {x' : X} {fs : Array Field} {f : Field} (hu : P.underlying s = some (.struct fs)) (hf : fs[i]? = some f) (hn : zl P f.type = some (n + 1)) (hx : qm P 0 x = some x') :
  ResOk P gt ⟨dst, .fieldAddr s x i, ty, pos, after, guard⟩ (.fld f.offset x') g env bx (jl gt (.fld f.offset x') g env bx) := by
 simp only [jl]
 split
 ·rename_i k o he
  refine ResOk.pure ?_
  intro F K pl w a hF hi hs hg hp
  have h1 := kI (K := K) (pl := pl) hx hs hg he
  simp only [Rep] at h1
  obtain ⟨b, h2, h3⟩ := h1
  exact ⟨_, by simp [execOp, h3, x7 hu hf hn]; rfl, by simp only [Rep]; exact ⟨b, h2, rfl⟩⟩
 ·rename_i k o he
  refine ResOk.pure ?_
  intro F K pl w a hF hi hs hg hp
  have h1 := kI (K := K) (pl := pl) hx hs hg he
  simp only [Rep] at h1
  obtain ⟨b, h2, h3⟩ := h1
  exact ⟨_, by simp [execOp, h3, x7 hu hf hn]; rfl, by simp only [Rep]; exact ⟨b, h2, rfl⟩⟩
 ·rename_i k o he
  refine ResOk.pure ?_
  intro F K pl w a hF hi hs hg hp
  have h1 := kI (K := K) (pl := pl) hx hs hg he
  simp only [Rep] at h1
  exact ⟨_, by simp [execOp, h1, x7 hu hf hn]; rfl, by simp only [Rep]⟩
 ·rename_i sz l j o he
  refine ResOk.pure ?_
  intro F K pl w a hF hi hs hg hp
  have h1 := kI (K := K) (pl := pl) hx hs hg he
  simp only [Rep] at h1
  obtain ⟨b, o', vs, h2, h3, h4, h5⟩ := h1
  exact ⟨_, by simp [execOp, h2, x7 hu hf hn]; rfl, by simp only [Rep]; exact ⟨b, o', vs, by rw [Nat.add_assoc (o' + j * sz)], h3, h4, h5⟩⟩
 ·rename_i k v sz j o he
  refine ResOk.pure ?_
  intro F K pl w a hF hi hs hg hp
  have h1 := kI (K := K) (pl := pl) hx hs hg he
  simp only [Rep] at h1
  obtain ⟨b, n', c, h2, h3⟩ := h1
  exact ⟨_, by simp [execOp, h3, x7 hu hf hn]; rfl, by simp only [Rep]; exact ⟨b, n', c, h2, by rw [Nat.add_assoc (j * sz)]⟩⟩
 ·trivial
theorem Ze {t e : TypeId} {s : Nat} (hu : P.underlying t = some (.slice e)) (hn : zl P e = some (s + 1)) (b o n c : Nat) (k : IntKind) (i : Int) (h0 : 0 <= i) (h1 : i < n) (w : World) :
  (Instr.indexAt t (.slice (some ⟨b, o, none⟩) n c) (.int k i)).run P w = .ok (.pointer (some ⟨b, o + i.toNat * (s + 1), none⟩)) w := by
 simp [Instr.indexAt, asIntOf, Sem.run_bind, run_underlying hu, h0, h1, qW hn, Addr.add_mid]
theorem kR5 {t e : TypeId} {s : Nat} {x i : Operand} {x' i' : X} (hu : P.underlying t = some (.slice e)) (hn : zl P e = some (s + 1)) (hx : qm P t x = some x') (hix : qm P 0 i = some i') :
  ResOk P gt ⟨dst, .indexAddr t x i, ty, pos, after, guard⟩ (.ixs (s + 1) x' i') g env bx (jl gt (.ixs (s + 1) x' i') g env bx) := by
 simp only [jl]
 cases he : jL env g x' with
 | none => simp [j6, ResOk]
 | some d0 =>
   cases hf : jL env g i' with
   | none => cases d0 <;> simp [j6, ResOk]
   | some d1 =>
     cases d0 <;> try (simp [j6, ResOk]; done)
     case ls sz l =>
      cases d1 <;> try (simp [j6, ResOk]; done)
      rename_i k j
      simp only [j6]
      refine ResOk.pure ?_
      intro F K pl w a hF hi hs hg hp
      have h1 := kI (K := K) (pl := pl) hx (fun s hs' => hs s (JA hs')) hg he
      have h2 := kI (K := K) (pl := pl) hix (fun s hs' => hs s (Jz hs')) hg hf
      obtain ⟨rfl, h3, h4⟩ := hp _ (List.mem_singleton.2 rfl)
      simp only [Rep] at h1 h2
      obtain ⟨a', n, c, h5, rfl, _, _, h6⟩ := h1
      rcases h6 with rfl | ⟨b, off, vs, rfl, h7, h8⟩
      ·simp at h4; omega
      ·exact ⟨_, by simp only [execOp, h5, h2]; rw [Sem.run_bind, Ze hu hn b off l.length c k j h3 h4]; rfl, by simp only [Rep]; exact ⟨b, off, vs, rfl, by omega, h7, h8⟩⟩
     case bsl k base sz len =>
      cases d1 <;> try (simp [j6, ResOk]; done)
      rename_i kk j
      simp only [j6]
      refine ResOk.pure ?_
      intro F K pl w a hF hi hs hg hp
      have h1 := kI (K := K) (pl := pl) hx (fun s hs' => hs s (JA hs')) hg he
      have h2 := kI (K := K) (pl := pl) hix (fun s hs' => hs s (Jz hs')) hg hf
      obtain ⟨rfl, h3, h4⟩ := hp _ (List.mem_singleton.2 rfl)
      simp only [Rep] at h1 h2
      obtain ⟨b, o, c, h5, h6, h7, h8⟩ := h1
      have ho : o = base := by
       rcases h8 with h8 | h8
       ·omega
       ·exact h8
      exact ⟨_, by simp only [execOp, h6, h2]; rw [Sem.run_bind, Ze hu hn b o len c kk j h3 h4]; rfl, by simp only [Rep]; exact ⟨b, h5, by rw [ho]⟩⟩
     case own k ver =>
      cases d1 <;> try (simp [j6, ResOk]; done)
      rename_i k' j
      simp only [j6]
      split
      ·rename_i ety sz' ver' rows hk
       rw [kG] at hk
       refine ResOk.pure ?_
       intro F K pl w a hF hi hs hg hp
       have h1 := kI (K := K) (pl := pl) hx (fun s hs' => hs s (JA hs')) hg he
       have h2 := kI (K := K) (pl := pl) hix (fun s hs' => hs s (Jz hs')) hg hf
       obtain ⟨rfl, rfl, h3, h4⟩ := hp _ (List.mem_singleton.2 rfl)
       simp only [Rep] at h1 h2
       obtain ⟨v, vs, h5, h6, h7, h8, _⟩ := hi.tab.ok k _ hk
       rw [h1.1] at h5; cases h5
       rcases h6.2 with ⟨h9, h10⟩ | ⟨gb, cap, cur, h9, h10, h11, _⟩
       ·omega
       ·exact ⟨_, by simp only [execOp, h9, h2]; rw [Sem.run_bind, Ze hu hn gb 0 rows.length cap k' j h3 h4]; rfl, by simp only [Rep]; exact ⟨gb, rows.length, cap, by rw [h1.1, h9], by simp⟩⟩
      ·trivial
theorem xm {t e : TypeId} {s m : Nat} (hu : P.underlying t = some (.array m e)) (hn : zl P e = some (s + 1)) (b o : Nat) (k : IntKind) (i : Int) (h0 : 0 <= i) (h1 : i < m) (w : World) :
  (Instr.indexAt t (.pointer (some ⟨b, o, none⟩)) (.int k i)).run P w = .ok (.pointer (some ⟨b, o + i.toNat * (s + 1), none⟩)) w := by
 simp [Instr.indexAt, Instr.sureAddr, asIntOf, Sem.run_bind, run_underlying hu, h0, h1, qW hn, Addr.add_mid]
theorem kR6 {t e : TypeId} {s m : Nat} {x i : Operand} {x' i' : X} (hu : P.underlying t = some (.array m e)) (hn : zl P e = some (s + 1)) (hx : qm P t x = some x') (hix : qm P 0 i = some i') :
  ResOk P gt ⟨dst, .indexAddr t x i, ty, pos, after, guard⟩ (.ixa m (s + 1) x' i') g env bx (jl gt (.ixa m (s + 1) x' i') g env bx) := by
 simp only [jl]
 cases he : jL env g x' with
 | none => simp [vp, ResOk]
 | some d0 =>
   cases hf : jL env g i' with
   | none => cases d0 <;> simp [vp, ResOk]
   | some d1 =>
     cases d0 <;> try (simp [vp, ResOk]; done)
     all_goals
      cases d1 <;> try (simp [vp, ResOk]; done)
      rename_i kk j
      simp only [vp]
      refine ResOk.pure ?_
      intro F K pl w a hF hi hs hg hp
      have h1 := kI (K := K) (pl := pl) hx (fun s hs' => hs s (JA hs')) hg he
      have h2 := kI (K := K) (pl := pl) hix (fun s hs' => hs s (Jz hs')) hg hf
      obtain ⟨h3, h4⟩ := hp _ (List.mem_singleton.2 rfl)
      simp only [Rep] at h1 h2
     ·obtain ⟨b, h5, h6⟩ := h1
      exact ⟨_, by simp only [execOp, h6, h2]; rw [Sem.run_bind, xm hu hn _ _ _ _ h3 h4]; rfl, by simp only [Rep]; exact ⟨b, h5, rfl⟩⟩
     ·obtain ⟨b, h5, h6⟩ := h1
      exact ⟨_, by simp only [execOp, h6, h2]; rw [Sem.run_bind, xm hu hn _ _ _ _ h3 h4]; rfl, by simp only [Rep]; exact ⟨b, h5, rfl⟩⟩
     ·obtain ⟨b, o', vs, h5, h6, h7, h8⟩ := h1
      exact ⟨_, by simp only [execOp, h5, h2]; rw [Sem.run_bind, xm hu hn _ _ _ _ h3 h4]; rfl, by simp only [Rep]; exact ⟨b, o', vs, by rw [Nat.add_assoc (o' + _)], h6, h7, h8⟩⟩
     ·obtain ⟨b, n', c, h5, h6⟩ := h1
      exact ⟨_, by simp only [execOp, h6, h2]; rw [Sem.run_bind, xm hu hn _ _ _ _ h3 h4]; rfl, by simp only [Rep]; exact ⟨b, n', c, h5, by rw [Nat.add_assoc]⟩⟩
     ·exact ⟨_, by simp only [execOp, h1, h2]; rw [Sem.run_bind, xm hu hn _ _ _ _ h3 h4]; rfl, by simp only [Rep]⟩
theorem kH7 {t : TypeId} {x i : Operand} {x' i' : X} (hu : P.underlying t = some .string) (hx : qm P t x = some x') (hix : qm P 0 i = some i') :
  ResOk P gt ⟨dst, .index t x i, ty, pos, after, guard⟩ (.sidx x' i') g env bx (jl gt (.sidx x' i') g env bx) := by
 simp only [jl]
 split
 ·rename_i s kk j he hf
  refine ResOk.pure ?_
  intro F K pl w a hF hi hs hg hp
  have h1 := kI (K := K) (pl := pl) hx (fun s hs' => hs s (JA hs')) hg he
  have h2 := kI (K := K) (pl := pl) hix (fun s hs' => hs s (Jz hs')) hg hf
  obtain ⟨h3, h4⟩ := hp _ (List.mem_singleton.2 rfl)
  simp only [Rep] at h1 h2
  have h5 : j.toNat < s.length := by omega
  have h6 : (⟨s.toArray⟩ : ByteArray)[j.toNat]? = some s[j.toNat] := by
   show (if h : _ then _ else _) = _
   rw [dif_pos (show j.toNat < (⟨s.toArray⟩ : ByteArray).size from h5)]; rfl
  refine ⟨.int .u8 (s[j.toNat].toNat : Int), ?_, by simp only [Rep]; simp [List.getD_eq_getElem?_getD, h5]⟩
  simp only [execOp, h1, h2]
  simp [Instr.index, asIntOf, Sem.run_bind, run_underlying hu, h3, h6]
 ·trivial
theorem jQ8 {t : TypeId} {n : Option Nat} (h : ve P t = some n) {K : Kn} {pl : Pl} {w : World} {off : Nat} {l : List D} {cs : List Value} {d : D} (hl : RepL K pl l cs) (h1 : ∀ c ∈ cs, c.oneCell' = true)
  (hd : jC l off n = some d) : ∃ v, (part t cs.toArray off).run P w = .ok v w /\ Rep K pl d v := by
 cases n with
 | none =>
   simp only [jC, kb8] at hd
   obtain ⟨v, hv, hr⟩ := hl.get off hd
   exact ⟨v, by simp [part, Sem.run_bind, yS h, hv], hr⟩
 | some n =>
   simp only [jC] at hd
   split at hd
   ·rename_i r hr
    cases hd
    rw [jW0] at hr
    obtain ⟨h2, rfl⟩ := jm9 _ _ _ hr
    have h3 := (hl.drop off).take n
    have hlen := hl.length
    refine ⟨.agg ((cs.drop off).take n).toArray, ?_, ?_⟩
    ·simp [part, Sem.run_bind, yS h, qW (KF h), List.take_drop]
    ·simp only [Rep]
     exact ⟨_, rfl, h3, fun c hcm => h1 c (List.mem_of_mem_drop (List.mem_of_mem_take hcm))⟩
   ·cases hd
theorem kH9 {t : TypeId} {x : Operand} {i : Nat} {n : Option Nat} {x' : X} {fs : Array Field} {f : Field} (hu : P.underlying t = some (.struct fs)) (hf : fs[i]? = some f) (hn : ve P f.type = some n) (hx : qm P t x = some x') :
  ResOk P gt ⟨dst, .field t x i, ty, pos, after, guard⟩ (.part f.offset n x') g env bx (jl gt (.part f.offset n x') g env bx) := by
 simp only [jl]
 split
 ·rename_i l he
  split
  ·rename_i d' hd'
   refine ResOk.pure ?_
   intro F K pl w a hF hi hs hg hp
   have h1 := kI (K := K) (pl := pl) hx hs hg he
   simp only [Rep] at h1
   obtain ⟨cs, h2, h3, h4⟩ := h1
   obtain ⟨v, h5, h6⟩ := jQ8 (w := w) hn h3 h4 hd'
   exact ⟨v, by simp [execOp, Instr.field, h2, Sem.run_bind, run_underlying hu, hf, asAgg, h5], h6⟩
  ·trivial
 ·trivial
theorem kR4 {t e : TypeId} {len s : Nat} {n : Option Nat} {x i : Operand} {x' i' : X} (hu : P.underlying t = some (.array len e)) (hs' : zl P e = some s) (hn : ve P e = some n) (hx : qm P t x = some x') (hix : qm P 0 i = some i') :
  ResOk P gt ⟨dst, .index t x i, ty, pos, after, guard⟩ (.ixv len s n x' i') g env bx (jl gt (.ixv len s n x' i') g env bx) := by
 simp only [jl]
 split
 ·rename_i l k j he hf
  intro F K pl w a hF hi hs hg hp d hd
  have h1 := kI (K := K) (pl := pl) hx (fun s hs' => hs s (JA hs')) hg he
  have h2 := kI (K := K) (pl := pl) hix (fun s hs' => hs s (Jz hs')) hg hf
  obtain ⟨h3, h4⟩ := hp _ (List.mem_singleton.2 rfl)
  simp only [Rep] at h1 h2
  obtain ⟨cs, h5, h6, h7⟩ := h1
  obtain ⟨v, h8, h9⟩ := jQ8 (w := w) hn h6 h7 hd
  exact ⟨v, by simp [execOp, Instr.index, h5, h2, asIntOf, Sem.run_bind, run_underlying hu, h3, h4, qW hs', h8], h9⟩
 ·trivial
end
end Go.AM
set_option linter.all false
namespace Go.AM
open Go Go.RowKit
section
variable {P : Program} {gt : Nat -> Option (List D)} {g : G} {env : x4} {bx : List Ent} {dst : Option Tmp} {ty : TypeId} {pos : String} {after : Array Edge} {guard : Option (Nat × Bool)}
theorem Xv {K : Kn} {pl : Pl} {a : Act} {fs : Nat -> Option (Nat × TypeId)} {place : Nat -> Option (Nat × Nat)} (hpl : ∀ i off t n, fs i = some (off, t) -> zl P t = some n -> place i = some (off, n)) (hg : qo a g) :
  ∀ (parts : List (Nat × Operand)) (parts' : List (Nat × Option Nat × X)) (z l : List D) (zs : Array Value) (ds : List D), xg P fs parts = some parts' -> (∀ s ∈ QW (kT parts'), SlotOk K pl env a s) ->
   kq env g (kT parts') = some ds -> RepL K pl z zs.toList -> (∀ c ∈ zs.toList, c.oneCell' = true) -> qB z parts' ds = some l ->
   ∃ r, Instr.fill place zs (parts.map fun p => (p.1, a.eval p.2)) = some r /\ RepL K pl l r.toList /\ ∀ c ∈ r.toList, c.oneCell' = true
 | [], parts', z, l, zs, ds, hc, hs, he, hz, h1, hf => by
   simp [xg] at hc; subst hc
   simp [kT, kq] at he; subst he
   simp [qB] at hf; subst hf
   exact ⟨zs, rfl, hz, h1⟩
 | (i, x) :: parts, parts', z, l, zs, ds, hc, hs, he, hz, h1, hf => by
   simp only [xg] at hc
   split at hc
   ·rename_i off t l0 hfs hcp
    split at hc
    ·rename_i n x' hn hx
     cases hc
     simp only [kT, kq] at he
     split at he
     ·rename_i d ds' hd hds
      cases he
      simp only [qB] at hf
      split at hf
      ·rename_i c hcd
       split at hf
       ·rename_i z' hz'
        have h2 := kI (K := K) (pl := pl) hx (fun s h' => hs s (by simp [QW, kT] at h' |-; exact .inl h')) hg hd
        obtain ⟨h5, h6, h7, h8⟩ := h2.cells hcd
        have hlen := h5.length
        have hsz : (a.eval x).cells.size = n.getD 1 := by
         cases n with
         | none => rw [(h8 rfl).1]; rfl
         | some m => have := (h7 m rfl).1; simp at hlen |-; omega
        have hp := hpl i off t _ hfs (KF hn)
        have hs' : ∀ s ∈ QW (kT l0), SlotOk K pl env a s := fun s h' => hs s (by simp only [QW, kT, List.flatMap_cons, List.mem_append] at h' |-; exact .inr h')
        rcases hz.splice off h5 hz' with ⟨h9, h10⟩ | ⟨h9, rfl⟩
        ·obtain ⟨zs', h11, h12⟩ := jD7 (place := place) (cells := zs) (i := i) (v := a.eval x) (rest := parts.map fun p => (p.1, a.eval p.2)) hp hsz (by rw [<- hsz]; simpa using h10)
         obtain ⟨r, h13, h14, h15⟩ := Xv hpl hg parts l0 z' l zs' ds' hcp hs' hds (by rw [h12]; exact h9) (fun u hu => by
          rw [h12, xF _ _ _ (by simpa using h10)] at hu
          simp only [List.mem_append] at hu
          rcases hu with (hu | hu) | hu
          ·exact h1 u (List.mem_of_mem_take hu)
          ·exact h6 u hu
          ·exact h1 u (List.mem_of_mem_drop hu)) hf
         exact ⟨r, by simp only [List.map_cons]; rw [h11]; exact h13, h14, h15⟩
        ·exfalso
         rw [h9] at hlen
         cases n with
         | none => rw [(h8 rfl).1] at h9; simp at h9
         | some m =>
           have h20 := jX5 hn
           have h21 := (h7 m rfl).1
           simp at hlen; omega
       ·cases hf
      ·cases hf
     ·cases he
    ·cases hc
   ·cases hc
theorem kS7 {t yt : TypeId} {op : BinOp} {k : IntKind} {x y : Operand} {x' y' : X} (hk : qy P t = some k) (hx : qm P t x = some x') (hy : qm P yt y = some y') :
  ResOk P gt ⟨dst, .binOp op t x y yt, ty, pos, after, guard⟩ (.bin op k x' y') g env bx (jl gt (.bin op k x' y') g env bx) := by
 simp only [jl]
 split
 ·rename_i k1 n1 k2 n2 he hf
  have key : (k2 = k \/ jR op = true) -> k = k1 -> ResOk P gt ⟨dst, .binOp op t x y yt, ty, pos, after, guard⟩ (.bin op k x' y') g env bx (ko op k n1 n2 bx) := by
   intro hop hk1
   subst hk1
   cases hr : ko op k n1 n2 bx with
   | bad => trivial
   | ok p d bx' =>
     intro F K pl w a hF hi hs hg hp
     have h1 := kI (K := K) (pl := pl) hx (fun s hs' => hs s (JA hs')) hg he
     have h2 := kI (K := K) (pl := pl) hy (fun s hs' => hs s (Jz hs')) hg hf
     simp only [Rep] at h1 h2
     obtain ⟨hbx, v, h3, h4⟩ := kL2 (P := P) (bx := bx) hop hr hp K pl t w
     rw [hbx]
     refine ⟨v, w, K, pl, .inl ?_, KLe.refl _, PLe.refl _, hi, h4⟩
     have hq : (eqGuard op t x y (.int k n1) (.int k2 n2)).run P w = .ok () w := by
      unfold eqGuard
      split <;> simp
     simp [execOp, h1, h2, Sem.run_bind, hq, h3]
   | call => cases op <;> simp [ko] at hr
   | row => cases op <;> simp [ko] at hr
   | arr => cases op <;> simp [ko] at hr
   | ask => cases op <;> simp [ko] at hr
   | put => cases op <;> simp [ko] at hr
   | callC => cases op <;> simp [ko] at hr
   | prm => cases op <;> simp [ko] at hr
   | callK => cases op <;> simp [ko] at hr
   | callN => cases op <;> simp [ko] at hr
   | callR => cases op <;> simp [ko] at hr
   | all => cases op <;> simp [ko] at hr
  cases h1 : kU k k1 with
  | false => simp [ResOk]
  | true =>
    cases h2 : kU k k2 with
    | true => exact key (.inl (Z6.1 h2).symm) (Z6.1 h1)
    | false =>
      cases h3 : jR op with
      | true => exact key (.inr h3) (Z6.1 h1)
      | false => simp [ResOk]
 ·trivial
theorem VX {op : BinOp} {t : TypeId} {x y : Operand} {u v : Value} (h : ∀ cs, u ≠ .agg cs) (h' : u ≠ .nilIface) (w : World) : (eqGuard op t x y u v).run P w = .ok () w := by
 cases u <;> first
  | exact absurd rfl (h _)
  | exact absurd rfl h'
  | (cases op <;> simp [eqGuard])
theorem kL3 (m n : List UInt8) : (m == n) = decide (m = n) := by
 by_cases h : m = n <;> simp [h]
theorem jp0 {t : TypeId} (hu : P.underlying t = some .bool) (m n : Bool) (w : World) : (Op.equal t (.bool m) (.bool n)).run P w = .ok (m == n) w := by
 show (Op.equalIn (9999 + 1) t _ _).run P w = _
 rw [Op.equalIn]
 simp [Sem.run_bind, run_underlying hu]
theorem kw6 {neg str : Bool} {op : BinOp} {t yt : TypeId} {x y : Operand} {x' y' : X} (hop : op = (if neg then .neq else .eql)) (hu : P.underlying t = some (if str then .string else .bool)) (hx : qm P t x = some x') (hy : qm P t y = some y') :
  ResOk P gt ⟨dst, .binOp op t x y yt, ty, pos, after, guard⟩ (.eqb neg str x' y') g env bx (jl gt (.eqb neg str x' y') g env bx) := by
 simp only [jl]
 split
 ·rename_i m n hd he
  refine ResOk.pure ?_
  intro F K pl w a hF hi hs hg hp
  have h1 := kI (K := K) (pl := pl) hx (fun s hs' => hs s (JA hs')) hg hd
  have h2 := kI (K := K) (pl := pl) hy (fun s hs' => hs s (Jz hs')) hg he
  refine ⟨.bool (jr2 neg (decide (m = n))), ?_, by simp only [Rep]⟩
  simp only [Rep] at h1 h2
  have hq := VX (P := P) (op := op) (t := t) (x := x) (y := y) (u := .string ⟨m.toArray⟩) (v := .string ⟨n.toArray⟩) nofun nofun w
  have hb := kL3 m n
  subst hop
  cases neg <;> simp at hq <;> simp [execOp, h1, h2, Sem.run_bind, hq, binOp, Op.stringOp, jr2, hb]
 ·rename_i m n hd he
  refine ResOk.pure ?_
  intro F K pl w a hF hi hs hg hp
  have h1 := kI (K := K) (pl := pl) hx (fun s hs' => hs s (JA hs')) hg hd
  have h2 := kI (K := K) (pl := pl) hy (fun s hs' => hs s (Jz hs')) hg he
  refine ⟨.bool (jr2 neg (m == n)), ?_, by simp only [Rep]⟩
  simp only [Rep] at h1 h2
  simp at hu
  have hq := VX (P := P) (op := op) (t := t) (x := x) (y := y) (u := .bool m) (v := .bool n) nofun nofun w
  subst hop
  have he := jp0 hu m n w
  cases neg <;> simp at hq <;> simp [execOp, h1, h2, Sem.run_bind, hq, binOp, he, jr2]
 ·trivial
/-! ### Structs, compared -/
def jf0 : CK -> TypeDesc
 | .i k => .int k
 | .b => .bool
 | .s => .string
theorem ka2 {t : TypeId} {c : CK} {d e : D} {u v : Value} {K : Kn} {pl : Pl} {b : Bool} (hd : Rep K pl d u) (he : Rep K pl e v) (hb : eqC c d e = some b)
  (hu : P.underlying t = some (jf0 c)) (n : Nat) (w : World) : (Op.equalIn (n + 1) t u v).run P w = .ok b w := by
 unfold eqC at hb
 split at hb
 ·rename_i k k1 x k2 y
  cases hk : bA (kU k k1) (kU k k2) with
  | false => simp [hk] at hb
  | true =>
    simp [hk] at hb; subst hb
    obtain ⟨h1, h2⟩ := qw.1 hk
    have h1 := Z6.1 h1
    have h2 := Z6.1 h2
    subst h1; subst h2
    simp only [Rep] at hd he; subst hd; subst he
    rw [Op.equalIn]
    simp [Sem.run_bind, run_underlying hu, jf0]; rfl
 ·simp only [Rep] at hd he; subst hd; subst he
  simp at hb; subst hb
  rw [Op.equalIn]
  simp [Sem.run_bind, run_underlying hu, jf0]
 ·simp only [Rep] at hd he; subst hd; subst he
  simp at hb; subst hb
  rw [Op.equalIn]
  simp [Sem.run_bind, run_underlying hu, jf0]
  show ((⟨_⟩ : ByteArray) == ⟨_⟩) = _
  rw [beq_toListBytes]; simp
 ·cases hb
theorem jN2 {t : TypeId} {d : TypeDesc} (hu : P.underlying t = some d) (hd : d = .bool \/ d = .string \/ ∃ k, d = .int k) (hs : zl P t = some 1) : ve P t = some none := by
 unfold zl at hs
 cases hi : P.info? t with
 | none => simp [hi] at hs
 | some i =>
   simp [hi] at hs
   rcases hd with rfl | rfl | ⟨k, rfl⟩ <;> simp [ve, hu, hi, hs]
theorem jD9 {K : Kn} {pl : Pl} {d : Nat} {w : World} {xs ys : List Value} : ∀ (fs : List Field) (ks : List CK) (j : Nat) (l r : List D) (e0 e : Bool), xh P j fs = some ks ->
  RepL K pl l (xs.drop j) -> RepL K pl r (ys.drop j) -> ZG e0 ks l r = some e -> ∃ e', e = (e0 && e') /\ (Op.eqFields (d + 1) xs.toArray ys.toArray fs).run P w = .ok e' w
 | [], ks, j, l, r, e0, e, hc, hl, hr, he => by
   simp [xh] at hc; subst hc
   cases l <;> cases r <;> simp [ZG] at he
   exact ⟨true, by simp [he], by simp [Op.eqFields]⟩
 | f :: fs, ks, j, l, r, e0, e, hc, hl, hr, he => by
   simp only [xh] at hc
   split at hc
   ·rename_i hcond
    obtain ⟨h1, h2, h3⟩ := hcond
    have key : ∀ (c : CK) (ks' : List CK), xh P (j + 1) fs = some ks' -> P.underlying f.type = some (jf0 c) -> ks = c :: ks' ->
      ∃ e', e = (e0 && e') /\ (Op.eqFields (d + 1) xs.toArray ys.toArray (f :: fs)).run P w = .ok e' w := by
     intro c ks' hks hu hk
     subst hk
     have hag : ve P f.type = some none := jN2 hu (by cases c <;> simp [jf0]) h3
     cases l with
     | nil => simp [ZG] at he
     | cons x l =>
       cases r with
       | nil => simp [ZG] at he
       | cons y r =>
         simp only [ZG] at he
         split at he
         ·rename_i b hb
          split at he
          ·rename_i c' hc'
           cases he
           simp only [RepL] at hl hr
           obtain ⟨u, us, hu', hu1, hu2⟩ := hl
           obtain ⟨v, vs, hv, hv1, hv2⟩ := hr
           have hxs : xs[j]? = some u := by have := congrArg (·[0]?) hu'; simpa using this
           have hys : ys[j]? = some v := by have := congrArg (·[0]?) hv; simpa using this
           have hus : us = xs.drop (j + 1) := by have := congrArg (List.drop 1) hu'; simpa using this.symm
           have hvs : vs = ys.drop (j + 1) := by have := congrArg (List.drop 1) hv; simpa using this.symm
           have hpx : (part f.type xs.toArray f.offset).run P w = .ok u w := by simp [part, Sem.run_bind, yS hag, h1, hxs]
           have hpy : (part f.type ys.toArray f.offset).run P w = .ok v w := by simp [part, Sem.run_bind, yS hag, h1, hys]
           have heq := ka2 hu1 hv1 hb hu d w
           obtain ⟨e', h5, h6⟩ := jD9 (K := K) (pl := pl) (d := d) (w := w) fs ks' (j + 1) l r b c' hks (by rw [<- hus]; exact hu2) (by rw [<- hvs]; exact hv2) hc'
           refine ⟨b && e', by rw [h5], ?_⟩
           simp only [Op.eqFields, h2, ne_eq, not_false_eq_true, if_true, Sem.run_bind, hpx, hpy, heq, Result.andThen_ok]
           cases b <;> simp [h6]
          ·cases he
         ·cases he
    split at hc <;> first | cases hc; done | skip
    ·rename_i l' hu hl'; cases hc; exact key .b l' hl' hu rfl
    ·rename_i l' hu hl'; cases hc; exact key .s l' hl' hu rfl
    ·rename_i k l' hu hl'; cases hc; exact key (.i k) l' hl' hu rfl
   ·cases hc
theorem kR9 {neg : Bool} {ks : List CK} {op : BinOp} {t yt : TypeId} {x y : Operand} {x' y' : X} (hop : op = (if neg then .neq else .eql)) (hk : Xj P t = some ks) (hx : qm P t x = some x') (hy : qm P t y = some y') :
  ResOk P gt ⟨dst, .binOp op t x y yt, ty, pos, after, guard⟩ (.eqS neg ks x' y') g env bx (jl gt (.eqS neg ks x' y') g env bx) := by
 simp only [jl]
 split
 ·rename_i l r hd he
  split
  ·rename_i e hee
   refine ResOk.pure ?_
   intro F K pl w a hF hi hs hg hp
   have h1 := kI (K := K) (pl := pl) hx (fun s hs' => hs s (JA hs')) hg hd
   have h2 := kI (K := K) (pl := pl) hy (fun s hs' => hs s (Jz hs')) hg he
   simp only [Rep] at h1 h2
   obtain ⟨xs, hxv, hxl, _⟩ := h1
   obtain ⟨ys, hyv, hyl, _⟩ := h2
   unfold Xj at hk
   split at hk
   ·rename_i fs hu
    split at hk
    ·rename_i hh
     have hF : P.fieldsOf t = fs := by simp [Program.fieldsOf, hu]
     have hequal : (Op.equal t (.agg xs.toArray) (.agg ys.toArray)).run P w = .ok e w := by
      show (Op.equalIn (9999 + 1) t _ _).run P w = _
      rw [run_equalIn_struct w 9999 t _ _ (by rw [hF]; exact hu) hh.2, hF]
      cases hfs : fs.toList with
      | nil =>
        rw [hfs] at hk; simp [xh] at hk; subst hk
        cases l <;> cases r <;> simp [jV6] at hee
        simp [Op.eqFields, hee]
      | cons f fl =>
        rw [hfs] at hk
        cases ks with
        | nil =>
          simp only [xh] at hk
          split at hk
          ·split at hk <;> simp at hk
          ·cases hk
        | cons c ks =>
          cases l with
          | nil => simp [jV6] at hee
          | cons x l => cases r with
            | nil => simp [jV6] at hee
            | cons y r =>
              have hee' : ZG true (c :: ks) (x :: l) (y :: r) = some e := by
               simp only [jV6] at hee
               simp only [ZG]
               split at hee
               ·rename_i b hb
                rw [hee]; simp
               ·cases hee
              obtain ⟨e', h5, h6⟩ := jD9 (K := K) (pl := pl) (d := 9998) (w := w) (f :: fl) (c :: ks) 0 (x :: l) (y :: r) true e hk (by simpa using hxl) (by simpa using hyl) hee'
              rw [h6, h5]; simp
     have hq : ∀ op, (eqGuard op t x y (.agg xs.toArray) (.agg ys.toArray)).run P w = .ok () w := fun op => by
      cases op <;> simp [eqGuard, Sem.run_bind, run_program, hh.1]
     refine ⟨.bool (jr2 neg e), ?_, by simp only [Rep]⟩
     subst hop
     cases neg <;> simp [execOp, hxv, hyv, Sem.run_bind, hq, binOp, hequal, jr2]
    ·cases hk
   ·cases hk
  ·trivial
 ·trivial
theorem kS4 {t yt : TypeId} {x y : Operand} {x' y' : X} (hu : P.underlying t = some .string) (hx : qm P t x = some x') (hy : qm P t y = some y') :
  ResOk P gt ⟨dst, .binOp .add t x y yt, ty, pos, after, guard⟩ (.cat x' y') g env bx (jl gt (.cat x' y') g env bx) := by
 simp only [jl]
 split
 ·rename_i m n hd he
  refine ResOk.pure ?_
  intro F K pl w a hF hi hs hg hp
  have h1 := kI (K := K) (pl := pl) hx (fun s hs' => hs s (JA hs')) hg hd
  have h2 := kI (K := K) (pl := pl) hy (fun s hs' => hs s (Jz hs')) hg he
  have h3 : m.length + n.length < 9223372036854775808 := hp _ (List.mem_singleton.2 rfl)
  simp only [Rep] at h1 h2
  have hs1 : (⟨m.toArray⟩ : ByteArray).size = m.length := by simp [ByteArray.size]
  have hs2 : (⟨n.toArray⟩ : ByteArray).size = n.length := by simp [ByteArray.size]
  have happ : (⟨m.toArray⟩ : ByteArray) ++ ⟨n.toArray⟩ = ⟨(m ++ n).toArray⟩ := by
   apply ByteArray.ext; simp
  refine ⟨.string ⟨(m ++ n).toArray⟩, ?_, by simp only [Rep]⟩
  have hnot : ¬ (9223372036854775807 < ((m.length : Int) + (n.length : Int))) := by omega
  simp [execOp, h1, h2, Sem.run_bind, eqGuard, binOp, Op.stringOp, hs1, hs2, happ, IntKind.max, IntKind.signed, IntKind.bits, hnot]
 ·trivial
end
end Go.AM
set_option linter.all false
namespace Go.AM
open Go Go.RowKit
section
variable {P : Program} {gt : Nat -> Option (List D)} {g : G} {env : x4} {bx : List Ent} {dst : Option Tmp} {ty : TypeId} {pos : String} {after : Array Edge} {guard : Option (Nat × Bool)}
theorem kR1 {t : TypeId} {x : Operand} {x' : X} (hx : qm P t x = some x') : ResOk P gt ⟨dst, .unOp .not t x, ty, pos, after, guard⟩ (.not x') g env bx (jl gt (.not x') g env bx) := by
 simp only [jl]
 split
 ·rename_i b he
  refine ResOk.pure ?_
  intro F K pl w a hF hi hs hg hp
  have h1 := kI (K := K) (pl := pl) hx hs hg he
  simp only [Rep] at h1
  exact ⟨.bool (!b), by simp [execOp, h1, Op.unary], by simp only [Rep]⟩
 ·trivial
theorem kR2 {t : TypeId} {k : IntKind} {x : Operand} {x' : X} (hx : qm P t x = some x') : ResOk P gt ⟨dst, .unOp .neg t x, ty, pos, after, guard⟩ (.neg k x') g env bx (jl gt (.neg k x') g env bx) := by
 simp only [jl]
 split
 ·rename_i k' n he
  split
  ·rename_i hk
   have := Z6.1 hk; subst this
   refine ResOk.pure ?_
   intro F K pl w a hF hi hs hg hp
   have h1 := kI (K := K) (pl := pl) hx hs hg he
   have h2 : j5 k (-n) := hp _ (List.mem_singleton.2 rfl)
   simp only [Rep] at h1
   exact ⟨.int k (-n), by simp [execOp, h1, Op.unary, Op.intArith, zW h2], by simp only [Rep]⟩
  ·trivial
 ·trivial
theorem kI0 {s d : TypeId} {k' k : IntKind} {x : Operand} {x' : X} (hs0 : qy P s = some k') (hd0 : qy P d = some k) (hx : qm P s x = some x') : ResOk P gt ⟨dst, .convert s d x, ty, pos, after, guard⟩ (.conv k x') g env bx (jl gt (.conv k x') g env bx) := by
 simp only [jl]
 split
 ·rename_i k'' n he
  refine ResOk.pure ?_
  intro F K pl w a hF hi hs hg hp
  have h1 := kI (K := K) (pl := pl) hx hs hg he
  have h2 : j5 k n := hp _ (List.mem_singleton.2 rfl)
  simp only [Rep] at h1
  have hu : P.underlying d = some (.int k) := by
   unfold qy at hd0
   split at hd0
   ·rename_i hh; cases hd0; exact hh
   ·cases hd0
  have hu' : P.underlying s = some (.int k') := by
   unfold qy at hs0
   split at hs0
   ·rename_i hh; cases hs0; exact hh
   ·cases hs0
  exact ⟨.int k n, by simp [execOp, h1, convert, Sem.run_bind, run_underlying hu, run_underlying hu', Conv.intToInt, zW h2], by simp only [Rep]⟩
 ·trivial
theorem kS0 {s d : TypeId} {k' k : IntKind} {x : Operand} {x' : X} (hs0 : qy P s = some k') (hd0 : qy P d = some k) (hx : qm P s x = some x') : ResOk P gt ⟨dst, .convert s d x, ty, pos, after, guard⟩ (.cvw k x') g env bx (jl gt (.cvw k x') g env bx) := by
 simp only [jl]
 split
 ·rename_i k'' n he
  refine ResOk.pure ?_
  intro F K pl w a hF hi hs hg hp
  have h1 := kI (K := K) (pl := pl) hx hs hg he
  simp only [Rep] at h1
  have hu : P.underlying d = some (.int k) := by
   unfold qy at hd0
   split at hd0
   ·rename_i hh; cases hd0; exact hh
   ·cases hd0
  have hu' : P.underlying s = some (.int k') := by
   unfold qy at hs0
   split at hs0
   ·rename_i hh; cases hs0; exact hh
   ·cases hs0
  exact ⟨.int k (k.wrap n), by simp [execOp, h1, convert, Sem.run_bind, run_underlying hu, run_underlying hu', Conv.intToInt], by simp only [Rep]⟩
 ·trivial
theorem Vm (b : Builtin) (args : Array Operand) (ts : Array TypeId) (t : TypeId) (ρ : Operand -> Value) (w : World) :
  (resolve ρ { callee := .builtin b, args := args, argTypes := ts } t).run P w = .ok { target := .builtin b ts t (args.map fun | .const _ => true | _ => false), args := args.map ρ } w := by
 simp [resolve]
 intro a _; cases a <;> rfl
theorem vx {s : Sem Value} {w w' : World} {v : Value} (h : s.run P w = .ok v w') : (s >>= fun x => (pure (Next.value x) : Sem Next)).run P w = .ok (.value v) w' := by
 rw [Sem.run_bind, h]; rfl
theorem qz {b : Builtin} {args : Array Operand} {ts : Array TypeId} {a : Act} {w w' : World} {v : Value} {cs : Array Bool} {S : Sem Next}
  (hS : ∀ cs, builtin b ts ty cs (args.map a.eval) = S) (hv : S.run P w = .ok (.value v) w') :
  (execOp a.eval ⟨dst, .call { callee := .builtin b, args := args, argTypes := ts }, ty, pos, after, guard⟩).run P w = .ok (.value v) w' := by
 simp only [execOp, Sem.run_bind, Vm, Result.andThen_ok, invoke, hS, hv]
theorem kw5 {str : Bool} {t : TypeId} {x : Operand} {x' : X} (hu : if str then P.underlying t = some .string else ∃ e, P.underlying t = some (.slice e)) (hx : qm P t x = some x') :
  ResOk P gt ⟨dst, .call { callee := .builtin .len, args := #[x], argTypes := #[t] }, ty, pos, after, guard⟩ (.len str x') g env bx (jl gt (.len str x') g env bx) := by
 simp only [jl]
 cases he : jL env g x' with
 | none => simp [kz, ResOk]
 | some d =>
   cases d <;> cases str <;> try (simp [kz, ResOk]; done)
   case str.true s =>
    simp only [kz]
    refine ResOk.pure ?_
    intro F K pl w a hF hi hs hg hp
    have h1 := kI (K := K) (pl := pl) hx hs hg he
    simp only [Rep] at h1
    simp at hu
    refine ⟨.int .i64 s.length, qz (cs := #[]) (fun cs => rfl) ?_, by simp only [Rep]⟩
    have hl : (Builtin.len_ #[t] ty #[a.eval x]).run P w = .ok (.int .i64 s.length) w := by
     have hz : (⟨s.toArray⟩ : ByteArray).size = s.length := rfl
     simp [Builtin.len_, h1, Sem.run_bind, run_underlying hu, goInt, hz]
    simp only [List.map_toArray, List.map_cons, List.map_nil]; exact vx hl
   case ls.false sz l =>
    simp only [kz]
    refine ResOk.pure ?_
    intro F K pl w a hF hi hs hg hp
    have h1 := kI (K := K) (pl := pl) hx hs hg he
    simp only [Rep] at h1
    obtain ⟨a', n, c, h2, h3, _, _⟩ := h1
    simp at hu
    obtain ⟨e, hu⟩ := hu
    refine ⟨.int .i64 l.length, qz (cs := #[]) (fun cs => rfl) ?_, by simp only [Rep]⟩
    have hl : (Builtin.len_ #[t] ty #[a.eval x]).run P w = .ok (.int .i64 l.length) w := by simp [Builtin.len_, h2, h3, Sem.run_bind, run_underlying hu, goInt]
    simp only [List.map_toArray, List.map_cons, List.map_nil]; exact vx hl
   case bsl.false k base sz n =>
    simp only [kz]
    refine ResOk.pure ?_
    intro F K pl w a hF hi hs hg hp
    have h1 := kI (K := K) (pl := pl) hx hs hg he
    simp only [Rep] at h1
    obtain ⟨b, o, c, h2, h3, _⟩ := h1
    simp at hu
    obtain ⟨e, hu⟩ := hu
    refine ⟨.int .i64 n, qz (cs := #[]) (fun cs => rfl) ?_, by simp only [Rep]⟩
    have hl : (Builtin.len_ #[t] ty #[a.eval x]).run P w = .ok (.int .i64 n) w := by simp [Builtin.len_, h3, Sem.run_bind, run_underlying hu, goInt]
    simp only [List.map_toArray, List.map_cons, List.map_nil]; exact vx hl
   case own.false k ver =>
    simp only [kz]
    split
    ·rename_i ety sz ver' rows hk
     rw [kG] at hk
     refine ResOk.pure ?_
     intro F K pl w a hF hi hs hg hp
     have h1 := kI (K := K) (pl := pl) hx hs hg he
     simp only [Rep] at h1
     have hver : ver = ver' := hp _ (List.mem_singleton.2 rfl)
     subst hver
     obtain ⟨v, vs, h5, h6, _⟩ := hi.tab.ok k _ hk
     rw [h1.1] at h5; cases h5
     simp at hu
     obtain ⟨e, hu⟩ := hu
     refine ⟨.int .i64 rows.length, qz (cs := #[]) (fun cs => rfl) ?_, by simp only [Rep]⟩
     have hl : (Builtin.len_ #[t] ty #[a.eval x]).run P w = .ok (.int .i64 rows.length) w := by
      rcases h6.2 with ⟨h9, h10⟩ | ⟨gb, cap, cur, h9, h10, h11, _⟩
      ·simp [Builtin.len_, h9, h10, Sem.run_bind, run_underlying hu, goInt]
      ·simp [Builtin.len_, h9, Sem.run_bind, run_underlying hu, goInt]
     simp only [List.map_toArray, List.map_cons, List.map_nil]; exact vx hl
    ·trivial
theorem ok_mx {t u : TypeId} {x y : Operand} {x' y' : X} (hx : qm P t x = some x') (hy : qm P u y = some y') :
  ResOk P gt ⟨dst, .call { callee := .builtin .max, args := #[x, y], argTypes := #[t, u] }, ty, pos, after, guard⟩ (.mx x' y') g env bx (jl gt (.mx x' y') g env bx) := by
 simp only [jl]
 split
 ·rename_i k m k' n hd he
  refine ResOk.pure ?_
  intro F K pl w a hF hi hs hg hp
  have h1 := kI (K := K) (pl := pl) hx (fun s hs' => hs s (JA hs')) hg hd
  have h2 := kI (K := K) (pl := pl) hy (fun s hs' => hs s (Jz hs')) hg he
  simp only [Rep] at h1 h2
  refine ⟨.int k (max m n), qz (cs := #[]) (fun cs => rfl) ?_, by simp only [Rep]⟩
  have : (if n > m then n else m) = max m n := by omega
  have hl : (Builtin.max_ #[t, u] ty #[a.eval x, a.eval y]).run P w = .ok (.int k (max m n)) w := by simp [Builtin.max_, Builtin.max2, h1, h2, this]
  simp only [List.map_toArray, List.map_cons, List.map_nil]; exact vx hl
 ·trivial
theorem ok_mn {t u : TypeId} {x y : Operand} {x' y' : X} (hx : qm P t x = some x') (hy : qm P u y = some y') :
  ResOk P gt ⟨dst, .call { callee := .builtin .min, args := #[x, y], argTypes := #[t, u] }, ty, pos, after, guard⟩ (.mn x' y') g env bx (jl gt (.mn x' y') g env bx) := by
 simp only [jl]
 split
 ·rename_i k m k' n hd he
  refine ResOk.pure ?_
  intro F K pl w a hF hi hs hg hp
  have h1 := kI (K := K) (pl := pl) hx (fun s hs' => hs s (JA hs')) hg hd
  have h2 := kI (K := K) (pl := pl) hy (fun s hs' => hs s (Jz hs')) hg he
  simp only [Rep] at h1 h2
  refine ⟨.int k (min m n), qz (cs := #[]) (fun cs => rfl) ?_, by simp only [Rep]⟩
  have : (if n < m then n else m) = min m n := by omega
  have hl : (Builtin.min_ #[t, u] ty #[a.eval x, a.eval y]).run P w = .ok (.int k (min m n)) w := by simp [Builtin.min_, Builtin.min2, h1, h2, this]
  simp only [List.map_toArray, List.map_cons, List.map_nil]; exact vx hl
 ·trivial
theorem kR8 {x : Operand} {x' : X} {i : Nat} (hx : qm P 0 x = some x') : ResOk P gt ⟨dst, .extract x i, ty, pos, after, guard⟩ (.ext x' i) g env bx (jl gt (.ext x' i) g env bx) := by
 simp only [jl]
 split
 ·rename_i l he
  split
  ·rename_i d hd
   refine ResOk.pure ?_
   intro F K pl w a hF hi hs hg hp
   have h1 := kI (K := K) (pl := pl) hx hs hg he
   simp only [Rep] at h1
   obtain ⟨cs, h2, h3⟩ := h1
   rw [kb8] at hd
   obtain ⟨v, h4, h5⟩ := h3.get i hd
   exact ⟨v, by simp [execOp, Instr.extract, h2, h4], h5⟩
  ·trivial
 ·trivial
theorem kx2 {t : TypeId} {parts : Array (Nat × Operand)} {z : List D} {parts' : List (Nat × Option Nat × X)} (hz : xB P t = some z)
  (hp : (∃ fs : Array Field, P.underlying t = some (.struct fs) /\ xg P (fun i => fs[i]?.map fun f => (f.offset, f.type)) parts.toList = some parts' /\ ∀ (i : Nat) (f : Field), fs[i]? = some f -> (zl P f.type).isSome = true) \/
    (∃ n e s, P.underlying t = some (.array n e) /\ zl P e = some s /\ xg P (fun i => some (i * s, e)) parts.toList = some parts')) :
  ResOk P gt ⟨dst, .build t parts, ty, pos, after, guard⟩ (.bld z parts') g env bx (jl gt (.bld z parts') g env bx) := by
 simp only [jl]
 split
 ·rename_i ds hds
  split
  ·rename_i l hl
   refine ResOk.pure ?_
   intro F K pl w a hF hi hs hg hq
   obtain ⟨zv, hz1, hz2, inf, hz3, hz4⟩ := x6 hz w
   obtain ⟨h3, h4⟩ := vO K pl hz2
   rcases hp with ⟨fs, hu, hc, hsz⟩ | ⟨n, e, s, hu, hsz, hc⟩
   ·obtain ⟨places, hpl, hpl2⟩ : ∃ places : List (Nat × Nat), (fs.toList.mapM fun f => (P.info? f.type).map fun i => (f.offset, i.size)) = some places /\ ∀ (i off : Nat) (t' : TypeId) (n' : Nat), (fs[i]?.map fun (f : Field) => (f.offset, f.type)) = some (off, t') -> zl P t' = some n' -> places[i]? = some (off, n') := by
     have gen : ∀ (l : List Field), (∀ (i : Nat) (f : Field), l[i]? = some f -> (zl P f.type).isSome = true) -> ∃ places : List (Nat × Nat), (l.mapM fun f => (P.info? f.type).map fun i => (f.offset, i.size)) = some places /\ ∀ (i off : Nat) (t' : TypeId) (n' : Nat), (l[i]?.map fun (f : Field) => (f.offset, f.type)) = some (off, t') -> zl P t' = some n' -> places[i]? = some (off, n') := by
      intro l
      induction l with
      | nil => intro _; exact ⟨[], rfl, fun i off t' n' h => by simp at h⟩
      | cons f l ih =>
        intro hall
        obtain ⟨pl', h5, h6⟩ := ih (fun i f' hf' => hall (i + 1) f' (by simpa using hf'))
        have := hall 0 f (by simp)
        cases hi' : P.info? f.type with
        | none => simp [zl, hi'] at this
        | some inf =>
          refine ⟨(f.offset, inf.size) :: pl', by simp [List.mapM_cons, hi', h5], fun i off t' n' h7 h8 => ?_⟩
          cases i with
          | zero =>
            simp at h7
            obtain ⟨rfl, rfl⟩ := h7
            simp [zl, hi'] at h8
            simp [h8]
          | succ i => simp at h7 |-; exact h6 i off t' n' (by simpa using h7) h8
     obtain ⟨places, h5, h6⟩ := gen fs.toList (fun i f hf => hsz i f (by simpa using hf))
     exact ⟨places, h5, fun i off t' n' h7 h8 => h6 i off t' n' (by simpa using h7) h8⟩
    obtain ⟨r, h5, h6, h7⟩ := Xv (K := K) (pl := pl) (a := a) (place := fun i => places[i]?) hpl2 hg parts.toList parts' z l zv.cells ds hc hs hds h3 h4 hl
    refine ⟨.agg r, ?_, by simp only [Rep]; exact ⟨r.toList, by simp, h6, h7⟩⟩
    have hb : P.built t (parts.map fun (p : Nat × Operand) => (p.1, a.eval p.2)).toList = some r := by
     simp only [Program.built, hz3, hu, hz4, hpl, List.getElem?_toArray, Array.toList_map]
     exact h5
    have := run_build w t _ r hb
    simp [execOp, this]
   ·obtain ⟨ie, hie, hie2⟩ : ∃ ie, P.info? e = some ie /\ ie.size = s := by
     cases hi' : P.info? e with
     | none => simp [zl, hi'] at hsz
     | some ie => simp [zl, hi'] at hsz; exact ⟨ie, rfl, hsz⟩
    subst hie2
    obtain ⟨r, h5, h6, h7⟩ := Xv (K := K) (pl := pl) (a := a) (place := fun i => some (i * ie.size, ie.size)) (fun i off t' n' h7 h8 => by
     simp at h7
     obtain ⟨rfl, rfl⟩ := h7
     rw [hsz] at h8; cases h8; rfl) hg parts.toList parts' z l zv.cells ds hc hs hds h3 h4 hl
    refine ⟨.agg r, ?_, by simp only [Rep]; exact ⟨r.toList, by simp, h6, h7⟩⟩
    have hb : P.built t (parts.map fun (p : Nat × Operand) => (p.1, a.eval p.2)).toList = some r := by
     simp only [Program.built, hz3, hu, hz4, hie, Array.toList_map]
     exact h5
    have := run_build w t _ r hb
    simp [execOp, this]
  ·trivial
 ·trivial
theorem kS3 {x : Operand} {x' : X} (hx : qm P 0 x = some x') : ResOk P gt ⟨dst, .nilCheck x, ty, pos, after, guard⟩ (.chk x') g env bx (jl gt (.chk x') g env bx) := by
 simp only [jl]
 split
 ·rename_i d he
  split
  ·rename_i hp'
   refine ResOk.pure ?_
   intro F K pl w a hF hi hs hg hp
   have h1 := kI (K := K) (pl := pl) hx hs hg he
   refine ⟨a.eval x, ?_, h1⟩
   cases d <;> simp only [ZC, Bool.false_eq_true] at hp' <;> simp only [Rep] at h1
   ·obtain ⟨cs, h, _⟩ := h1; simp [execOp, h]
   ·obtain ⟨b, _, h⟩ := h1; simp [execOp, h]
   ·obtain ⟨b, _, h⟩ := h1; simp [execOp, h]
   ·obtain ⟨b, o, vs, h, _⟩ := h1; simp [execOp, h]
   ·obtain ⟨b, n, c, _, h⟩ := h1; simp [execOp, h]
   ·simp [execOp, h1]
  ·trivial
 ·trivial
theorem jq4 : ∀ (bs : List UInt8) (r : ByteArray), ((bs.map fun b : UInt8 => (b.toNat : Int)).foldl (fun r n => r.push (UInt8.ofNat n.toNat)) r).data.toList = r.data.toList ++ bs
 | [], r => by simp
 | b :: bs, r => by
   simp only [List.map_cons, List.foldl_cons]
   rw [jq4 bs]
   simp [ByteArray.push]
theorem jH0 {s d e : TypeId} (hs0 : P.underlying s = some (.slice e)) (he : P.underlying e = some (.int .u8)) (hd0 : P.underlying d = some .string) {w : World} {ad : Option Addr} {n c : Nat} {bs : List UInt8} (hn : n = bs.length)
  (hcell : ∀ a', ad = some a' -> ∀ j u, (bs.map fun b : UInt8 => Value.int .u8 b.toNat)[j]? = some u -> w.cell? (a'.add j) = some u) (hnil : ad = none -> bs = []) :
  (convert s d (.slice ad n c)).run P w = .ok (.string ⟨bs.toArray⟩) w := by
 have hconv : (convert s d (.slice ad n c)).run P w = (Conv.bytesToString (.slice ad n c)).run P w := by
  simp [convert, Sem.run_bind, run_underlying hs0, run_underlying hd0, run_underlying he]
 rw [hconv]
 cases ad with
 | none =>
   have := hnil rfl; subst this
   simp [Conv.bytesToString]
   rfl
 | some a' =>
   have hl := run_loadCells_list (P := P) w a' (bs.map fun b : UInt8 => Value.int .u8 b.toNat) (hcell a' rfl)
   have hb := run_bytesToString (P := P) w a' n c (bs.map fun b : UInt8 => (b.toNat : Int)) (by rw [hn]; simpa [Function.comp_def] using hl)
   rw [hb]
   congr 2
   apply ByteArray.ext
   apply Array.ext'
   rw [jq4]; rfl
theorem jf3 {K : Kn} {pl : Pl} : ∀ {bs : List UInt8} {vs : List Value}, RepL K pl (JO bs) vs -> vs = bs.map fun b : UInt8 => Value.int .u8 b.toNat
 | [], vs, h => by simpa [JO, RepL] using h
 | b :: bs, vs, h => by
   simp only [JO, List.map_cons, RepL, Rep] at h
   obtain ⟨v, r, rfl, rfl, h⟩ := h
   simp [jf3 (bs := bs) h]
theorem jt2 (bs : List UInt8) : qa (bs.map fun b : UInt8 => Value.int .u8 b.toNat) = bs.map fun b : UInt8 => Value.int .u8 b.toNat := by
 induction bs with
 | nil => rfl
 | cons b bs ih => simp only [qa, List.map_cons, List.flatMap_cons] at ih |-; rw [ih]; rfl
theorem kS8 {s d e : TypeId} {x : Operand} {x' : X} (hs0 : P.underlying s = some (.slice e)) (he : P.underlying e = some (.int .u8)) (hd0 : P.underlying d = some .string) (hx : qm P s x = some x') :
  ResOk P gt ⟨dst, .convert s d x, ty, pos, after, guard⟩ (.b2s x') g env bx (jl gt (.b2s x') g env bx) := by
 simp only [jl]
 split
 ·rename_i sz l hev
  intro F K pl w a hF hi hs hg hp d' hd'
  have h1 := kI (K := K) (pl := pl) hx hs hg hev
  have hsz : sz = 1 := hp _ (List.mem_singleton.2 rfl)
  obtain ⟨bs, rfl, rfl⟩ := hd'
  simp only [Rep] at h1
  obtain ⟨ad, n, c, h2, h3, _, h4, h5⟩ := h1
  refine ⟨.string ⟨bs.toArray⟩, ?_, by simp only [Rep]⟩
  have hrun := jH0 (P := P) (w := w) hs0 he hd0 (ad := ad) (n := n) (c := c) (bs := bs) (by rw [h3]; simp [JO]) (fun a' ha' j u hj => ?_) (fun hn => ?_)
  ·simp [execOp, h2, hrun]
  ·rcases h5 with h5 | ⟨b, off, vs, h6, h7, cs, T, fz, h8, h9, h10⟩
   ·simp [JO] at h5; subst h5; simp at hj
   ·rw [h6] at ha'; cases ha'
    rw [Addr.add_mid]
    have := jf3 h7
    subst this
    rw [jt2] at h10
    exact qJ (hi.mod _ _ h8) h10 j u hj
  ·rcases h5 with h5 | ⟨b, off, vs, h6, _⟩
   ·simpa [JO] using h5
   ·rw [hn] at h6; cases h6
 ·rename_i k ver hev
  split
  ·rename_i e' sz ver' l hk
   rw [kG] at hk
   intro F K pl w a hF hi hs hg hp d' hd'
   have h1 := kI (K := K) (pl := pl) hx hs hg hev
   obtain ⟨hsz, hver⟩ := hp _ (List.mem_singleton.2 rfl)
   subst hsz; subst hver
   obtain ⟨bs, rfl, rfl⟩ := hd'
   simp only [Rep] at h1
   obtain ⟨v, vs, h3, h4, h5, h6, h7, h8⟩ := hi.tab.ok k _ hk
   rw [h1.1] at h3; cases h3
   have := jf3 h5
   subst this
   refine ⟨.string ⟨bs.toArray⟩, ?_, by simp only [Rep]⟩
   have hbl : (JO bs).length = bs.length := by simp [JO]
   rcases h4.2 with ⟨h9, h10⟩ | ⟨g', cap, cur, h9, h10, h11, h12, h13, h14, h15⟩
   ·have hbs : bs = [] := List.eq_nil_of_length_eq_zero (by omega)
    subst hbs
    have hrun := jH0 (P := P) (w := w) hs0 he hd0 (ad := none) (n := 0) (c := 0) (bs := []) rfl nofun (fun _ => rfl)
    simp [execOp, h9, hrun]
   ·have hrun := jH0 (P := P) (w := w) hs0 he hd0 (ad := some ⟨g', 0, none⟩) (n := (JO bs).length) (c := cap) (bs := bs) hbl (fun a' ha' j u hj => ?_) nofun
    ·simp [execOp, h9, hrun]
    ·cases ha'
     rw [Addr.add_mid]
     rw [jt2] at h15
     exact qJ (o := 0) h11 (by rw [List.drop_zero, <- h15]; exact List.take_prefix _ _) j u hj
  ·trivial
 ·trivial
theorem JL {F : Fr} {K : Kn} {pl : Pl} {a : Act} {w : World} {lo : Option Operand} {lo' : Option X} {dflt r : Int} (hx : jx1 P lo = some lo') (hs : ∀ s ∈ kN9 lo', SlotOk K pl env a s) (hg : qo a g) (he : jx7 env g dflt lo' = some r) :
  (lo = none /\ r = dflt) \/ ∃ x k, lo = some x /\ a.eval x = .int k r := by
 unfold jx1 at hx
 split at hx
 ·cases hx; simp [jx7] at he; exact .inl ⟨rfl, he.symm⟩
 ·rename_i x
  split at hx
  ·rename_i x' hxx
   cases hx
   simp only [jx7] at he
   split at he
   ·rename_i k n hd
    cases he
    have := kI (K := K) (pl := pl) hxx hs hg hd
    simp only [Rep] at this
    exact .inr ⟨x, k, rfl, this⟩
   ·cases he
  ·cases hx
theorem Xc {isSlice : Bool} {len cap : Nat} {lo hi : Option Operand} {a : Act} {l h : Int} (hlo : (lo = none /\ l = 0) \/ ∃ x k, lo = some x /\ a.eval x = .int k l) (hhi : (hi = none /\ h = len) \/ ∃ x k, hi = some x /\ a.eval x = .int k h)
  (h0 : 0 <= l) (h1 : l <= h) (h2 : h <= len) (hc : len <= cap) (w : World) :
  (Instr.sliceBounds isSlice len cap (lo.map a.eval) (hi.map a.eval) none).run P w = .ok (l.toNat, h.toNat, cap) w := by
 have h3 : (h : Int) <= cap := by omega
 have hl : ∀ v, v = l -> (∀ k, (Instr.sliceBound (.int k v) h.toNat .sliceB).run P w = .ok l.toNat w) := fun v hv k => by
  subst hv
  have : ¬ max h 0 < v := by omega
  simp [Instr.sliceBound, asIntOf, Sem.run_bind, h0, this]
 have hh : ∀ k code, (Instr.sliceBound (.int k h) cap code).run P w = .ok h.toNat w := fun k code => by
  have : 0 <= h := by omega
  simp [Instr.sliceBound, asIntOf, Sem.run_bind, h3, this]
 rcases hhi with ⟨rfl, rfl⟩ | ⟨x, k, rfl, hx⟩ <;> rcases hlo with ⟨rfl, rfl⟩ | ⟨y, k', rfl, hy⟩
 ·simp [Instr.sliceBounds]
 ·have := hl l rfl k'
  simp at this
  simp [Instr.sliceBounds, hy, Sem.run_bind, this]
 ·simp [Instr.sliceBounds, hx, Sem.run_bind, hh]
 ·simp [Instr.sliceBounds, hx, hy, Sem.run_bind, hh, hl l rfl k']
theorem kQ8 {t : TypeId} {x : Operand} {lo hi : Option Operand} {x' : X} {lo' hi' : Option X} (hu : P.underlying t = some .string) (hx : qm P t x = some x') (hl : jx1 P lo = some lo') (hh : jx1 P hi = some hi') :
  ResOk P gt ⟨dst, .slice t x lo hi none, ty, pos, after, guard⟩ (.sst x' lo' hi') g env bx (jl gt (.sst x' lo' hi') g env bx) := by
 simp only [jl]
 cases he : jL env g x' with
 | none => simp [xV, ResOk]
 | some d0 =>
   cases d0 <;> try (simp [xV, ResOk]; done)
   rename_i s
   simp only [xV]
   split
   ·rename_i l h hl' hh'
    refine ResOk.pure ?_
    intro F K pl w a hF hi' hs hg hp
    obtain ⟨h0, h1, h2⟩ := hp _ (List.mem_singleton.2 rfl)
    have hv := kI (K := K) (pl := pl) hx (fun s h' => hs s (by simp [Jq, h'])) hg he
    simp only [Rep] at hv
    have hlo := JL (F := F) (w := w) (K := K) (pl := pl) (a := a) hl (fun s h' => hs s (by simp [Jq, h'])) hg hl'
    have hhi := JL (F := F) (w := w) (K := K) (pl := pl) (a := a) hh (fun s h' => hs s (by simp [Jq, h'])) hg hh'
    have hsz : (⟨s.toArray⟩ : ByteArray).size = s.length := by simp [ByteArray.size]
    have hrun := Xc (P := P) (isSlice := false) (cap := s.length) hlo hhi h0 h1 h2 (Nat.le_refl _) w
    refine ⟨.string ⟨((s.take h.toNat).drop l.toNat).toArray⟩, ?_, by simp only [Rep]⟩
    have hext : (⟨s.toArray⟩ : ByteArray).extract l.toNat h.toNat = ⟨((s.take h.toNat).drop l.toNat).toArray⟩ := by
     apply ByteArray.ext
     rw [ByteArray.data_extract]
     simp [List.drop_take]
    simp [execOp, Instr.sliceAt, Instr.slice, hv, Sem.run_bind, run_underlying hu, hsz, hrun, hext]
   ·trivial
end
end Go.AM
set_option linter.all false
namespace Go.AM
open Go Go.RowKit
theorem yJ {K : Kn} {pl : Pl} {n : Option Nat} {s : Nat} (hs : n.getD 1 = s) : ∀ {l : List D} {vs : List Value}, RepL K pl l vs -> ql n l = true -> sized s vs
 | [], vs, h, _ => by simp [RepL] at h; subst h; exact fun v hv => by cases hv
 | d :: l, vs, h, hr => by
   simp only [RepL] at h
   obtain ⟨v, r, rfl, h1, h2⟩ := h
   simp only [ql] at hr
   split at hr
   ·rename_i c hc
    obtain ⟨h5, h6, h7, h8⟩ := h1.cells hc
    have hlen := h5.length
    intro u hu
    rcases List.mem_cons.1 hu with rfl | hu
    ·refine ⟨?_, h6⟩
     cases n with
     | none => rw [(h8 rfl).1]; simpa using hs
     | some m => have := (h7 m rfl).1; simp at hlen hs; omega
    ·exact yJ hs h2 hr u hu
   ·cases hr
noncomputable def QC (K : Kn) (pl : Pl) (bx : List Ent) (w : World) : Kn := fun b =>
 match K b with
 | some o => some o
 | none => open Classical in if ∃ k e, bx[k]? = some e /\ jW pl k e = some b then w.heap[b]? else none
theorem yi (K : Kn) (pl : Pl) (bx : List Ent) (w : World) : KLe K (QC K pl bx w) := fun b o h => by simp [QC, h]
theorem jC3 {K : Kn} {pl : Pl} {bx : List Ent} {w : World} (h : ∀ b o, K b = some o -> w.heap[b]? = some o) : ∀ b o, QC K pl bx w b = some o -> w.heap[b]? = some o := fun b o hb => by
 unfold QC at hb
 split at hb
 ·rename_i o' ho; cases hb; exact h b o ho
 ·split at hb
  ·exact hb
  ·cases hb
section
variable {K : Kn} {pl : Pl} {bx : List Ent} {w : World}
theorem sized.take {sz : Nat} {vs : List Value} (h : sized sz vs) (n : Nat) : sized sz (vs.take n) := fun v hv => h v (List.mem_of_mem_take hv)
theorem sized.drop {sz : Nat} {vs : List Value} (h : sized sz vs) (n : Nat) : sized sz (vs.drop n) := fun v hv => h v (List.mem_of_mem_drop hv)
theorem Jv (a b : List Value) : qa (a ++ b) = qa a ++ qa b := by simp [qa]
theorem xO {sz : Nat} {vs : List Value} (h : sized sz vs) (n : Nat) (hn : n <= vs.length) : (qa vs).take (n * sz) = qa (vs.take n) /\ (qa vs).drop (n * sz) = qa (vs.drop n) := by
 have e : qa vs = qa (vs.take n) ++ qa (vs.drop n) := by rw [<- Jv, List.take_append_drop]
 have hl : (qa (vs.take n)).length = n * sz := by rw [qu (h.take n), List.length_take, Nat.min_eq_left hn]
 rw [e, <- hl]
 exact ⟨List.take_left, List.drop_left⟩
theorem jJ8 {K : Kn} {pl : Pl} {sz : Nat} {rows : List D} {v : Value} (h : Rep K pl (.ls sz rows) v) {l b : Int} (h0 : 0 <= l) (h1 : l <= b) (h2 : b <= rows.length) :
  ∃ ad len cap, v = .slice ad len cap /\ len = rows.length /\ len <= cap /\ Rep K pl (.ls sz ((rows.take b.toNat).drop l.toNat)) (.slice (if cap = l.toNat then ad else ad.map (·.add (l.toNat * sz))) (b.toNat - l.toNat) (cap - l.toNat)) := by
 simp only [Rep] at h
 obtain ⟨ad, n, cap, hv, hn, hc, hnil, hrows⟩ := h
 refine ⟨ad, n, cap, hv, hn, hc, ?_⟩
 simp only [Rep]
 have hlen : ((rows.take b.toNat).drop l.toNat).length = b.toNat - l.toNat := by simp; omega
 refine ⟨_, _, _, rfl, hlen.symm, by omega, fun ha => ?_, ?_⟩
 ·split at ha
  ·have := hnil ha; omega
  ·cases ad with
   | none => have := hnil rfl; omega
   | some a => simp at ha
 ·by_cases hz : b.toNat - l.toNat = 0
  ·exact .inl (List.eq_nil_of_length_eq_zero (by omega))
  ·rcases hrows with rfl | ⟨bb, off, vs, had, hr, cs, T, fz, hk, hs, hp⟩
   ·simp at h2; omega
   ·right
    have hvl := hr.length
    refine ⟨bb, off + l.toNat * sz, (vs.take b.toNat).drop l.toNat, ?_, (hr.take _).drop _, cs, T, fz, hk, (hs.take _).drop _, ?_⟩
    ·rw [if_neg (by omega), had]; simp [Addr.add_mid]
    ·have e1 := (xO (hs.take b.toNat) l.toNat (by simp; omega)).2
     have e2 := (xO hs b.toNat (by omega)).1
     rw [<- e1, <- e2, <- List.drop_drop]
     obtain ⟨r, hr'⟩ := hp
     rw [<- hr', List.drop_append_of_le_length (by rw [qu hs]; exact Nat.mul_le_mul_right _ (by omega))]
     refine List.IsPrefix.trans ?_ (List.prefix_append _ _)
     rw [List.drop_take]
     exact List.take_prefix _ _
theorem jU4 (hi : Tab K pl w bx) {k ver : Nat} {e : TypeId} {sz : Nat} {rows : List D} (hk : bx[k]? = some (.arr e sz ver rows)) {v : Value} (hv : pl k ver = some v) : Rep (QC K pl bx w) vK (.ls sz rows) v := by
 obtain ⟨v', vs, h1, h2, h3, h4, h5, h6⟩ := hi.ok k _ hk
 rw [hv] at h1; cases h1
 simp only [Rep]
 rcases h2.2 with ⟨rfl, h7⟩ | ⟨g, cap, cur, rfl, h7, h8, h9, h10, h11, h12⟩
 ·exact ⟨none, 0, 0, rfl, h7.symm, Nat.le_refl _, fun _ => rfl, .inl (List.eq_nil_of_length_eq_zero h7)⟩
 ·refine ⟨_, _, _, rfl, rfl, h9, nofun, .inr ⟨g, 0, vs, rfl, RepL.mono (yi _ _ _ _) (PLe.refl _) _ _ h3, cur, e, (0, 0), ?_, h4, ?_⟩⟩
  ·have hb : jW pl k (.arr e sz ver rows) = some g := by simp [jW, hv, vj]
   have := (hi.lt hk hb).2
   unfold QC
   rw [this]
   simp only
   rw [if_pos ⟨k, _, hk, hb⟩]
   exact h8
  ·rw [List.drop_zero, <- h12]; exact List.take_prefix _ _
mutual
theorem kj2 (hi : Tab K pl w bx) : ∀ (d : D) (q : List Prop) (o : Bool) (d' : D) (v : Value), lend bx d = some (q, o, d') -> (∀ p ∈ q, p) -> Rep K pl d v -> Rep (QC K pl bx w) vK d' v /\ (o = false -> Rep K vK d' v)
 | .int k n, q, o, d', v, h, _, hr => by
   simp [lend] at h; obtain ⟨rfl, rfl, rfl⟩ := h
   simp only [Rep] at hr |-; exact ⟨hr, fun _ => hr⟩
 | .bool b, q, o, d', v, h, _, hr => by
   simp [lend] at h; obtain ⟨rfl, rfl, rfl⟩ := h
   simp only [Rep] at hr |-; exact ⟨hr, fun _ => hr⟩
 | .str s, q, o, d', v, h, _, hr => by
   simp [lend] at h; obtain ⟨rfl, rfl, rfl⟩ := h
   simp only [Rep] at hr |-; exact ⟨hr, fun _ => hr⟩
 | .ls sz l, q, o, d', v, h, _, hr => by
   simp [lend] at h; obtain ⟨rfl, rfl, rfl⟩ := h
   have h1 := Qg (.ls sz l) v rfl hr
   exact ⟨Rep.mono (yi _ _ _ _) (PLe.refl _) _ _ h1, fun _ => h1⟩
 | .mp ks vs, q, o, d', v, h, _, hr => by
   simp [lend] at h; obtain ⟨rfl, rfl, rfl⟩ := h
   have h1 := Qg (.mp ks vs) v rfl hr
   exact ⟨Rep.mono (yi _ _ _ _) (PLe.refl _) _ _ h1, fun _ => h1⟩
 | .nil, q, o, d', v, h, _, hr => by
   simp [lend] at h; obtain ⟨rfl, rfl, rfl⟩ := h
   simp only [Rep] at hr |-; exact ⟨hr, fun _ => hr⟩
 | .glob gl off, q, o, d', v, h, _, hr => by
   simp [lend] at h; obtain ⟨rfl, rfl, rfl⟩ := h
   simp only [Rep] at hr |-; exact ⟨hr, fun _ => hr⟩
 | .ifc b, q, o, d', v, h, _, hr => by
   simp [lend] at h; obtain ⟨rfl, rfl, rfl⟩ := h
   simp only [Rep] at hr |-; exact ⟨hr, fun _ => hr⟩
 | .fn f l, q, o, d', v, h, hq, hr => by
   simp only [lend] at h
   split at h
   ·rename_i p o' l' hl
    simp at h; obtain ⟨rfl, rfl, rfl⟩ := h
    simp only [Rep] at hr |-
    obtain ⟨cs, h1, h2⟩ := hr
    obtain ⟨h4, h5⟩ := ZB hi l _ _ _ cs hl hq h2
    exact ⟨⟨cs, h1, h4⟩, fun ho => ⟨cs, h1, h5 ho⟩⟩
   ·cases h
 | .own k ver, q, o, d', v, h, hq, hr => by
   simp only [lend] at h
   split at h
   ·rename_i e sz ver' rows hk
    rw [kG] at hk
    simp at h; obtain ⟨rfl, rfl, rfl⟩ := h
    have hver : ver = ver' := hq _ (by simp)
    subst hver
    simp only [Rep] at hr
    exact ⟨jU4 hi hk hr.1, nofun⟩
   ·cases h
 | .agg l, q, o, d', v, h, hq, hr => by
   simp only [lend] at h
   split at h
   ·rename_i p o' l' hl
    simp at h; obtain ⟨rfl, rfl, rfl⟩ := h
    simp only [Rep] at hr |-
    obtain ⟨cs, h1, h2, h3⟩ := hr
    obtain ⟨h4, h5⟩ := ZB hi l _ _ _ cs hl hq h2
    exact ⟨⟨cs, h1, h4, h3⟩, fun ho => ⟨cs, h1, h5 ho, h3⟩⟩
   ·cases h
 | .tup l, q, o, d', v, h, hq, hr => by
   simp only [lend] at h
   split at h
   ·rename_i p o' l' hl
    simp at h; obtain ⟨rfl, rfl, rfl⟩ := h
    simp only [Rep] at hr |-
    obtain ⟨cs, h1, h2⟩ := hr
    obtain ⟨h4, h5⟩ := ZB hi l _ _ _ cs hl hq h2
    exact ⟨⟨cs, h1, h4⟩, fun ho => ⟨cs, h1, h5 ho⟩⟩
   ·cases h
 | .yld _, _, _, _, _, h, _, _ => by simp [lend] at h
 | .osl k ver sz off len, q, o, d', v, h, hq, hr => by
   simp only [lend] at h
   split at h
   ·rename_i e sz' ver' rows hk
    rw [kG] at hk
    simp at h; obtain ⟨rfl, rfl, rfl⟩ := h
    obtain ⟨hver, hsz, hle⟩ := hq _ (List.mem_singleton.2 rfl)
    subst hver; subst hsz
    simp only [Rep] at hr
    obtain ⟨a, n, c, h1, h2, h3, rfl⟩ := hr
    have hl := jU4 hi hk h1
    obtain ⟨ad, len', cap, hv1, rfl, hc, hrep⟩ := jJ8 (l := (off : Int)) (b := ((off + len : Nat) : Int)) hl (by omega) (by omega) (by omega)
    cases hv1
    refine ⟨?_, nofun⟩
    have e1 : ((off + len : Nat) : Int).toNat = off + len := by omega
    have e2 : ((off : Nat) : Int).toNat = off := by omega
    rw [e1, e2] at hrep
    rw [show off + len - off = len from by omega] at hrep
    exact hrep
   ·cases h
 | .box _ _, _, _, _, _, h, _, _ => by simp [lend] at h
 | .boxi _ _, _, _, _, _, h, _, _ => by simp [lend] at h
 | .bsl _ _ _ _, _, _, _, _, h, _, _ => by simp [lend] at h
 | .ownm k ver, q, o, d', v, h, hq, hr => by
   simp only [lend] at h
   split at h
   ·rename_i ks vs hk
    rw [kG] at hk
    simp at h; obtain ⟨rfl, rfl, rfl⟩ := h
    have hver : ver = 0 := hq _ (by simp)
    have hcl : jV vs = true := hq _ (by simp)
    subst hver
    simp only [Rep] at hr
    obtain ⟨b, es, clock, kvs, vvs, h1, h3, h4, h5, h6, h7, h8⟩ := hi.ok k _ hk
    rw [hr.1] at h1; cases h1
    refine ⟨?_, nofun⟩
    simp only [Rep]
    refine .inr ⟨b, kvs, vvs, rfl, RepL.mono (yi _ _ _ _) (PLe.refl _) _ _ h5, RepL.mono (yi _ _ _ _) (PLe.refl _) _ _ (zj _ _ hcl h6), h7, es, clock, ?_, h8⟩
    have hb := zP (ks := ks) (vs := vs) hr.1
    unfold QC
    rw [h3]
    simp only
    rw [if_pos ⟨k, _, hk, hb⟩]
    exact h4
   ·cases h
 | .el _ _ _ _, _, _, _, _, h, _, _ => by simp [lend] at h
 | .elo _ _ _ _ _, _, _, _, _, h, _, _ => by simp [lend] at h
 | .any, _, _, _, _, h, _, _ => by simp [lend] at h
theorem ZB (hi : Tab K pl w bx) : ∀ (l : List D) (q : List Prop) (o : Bool) (l' : List D) (vs : List Value), kA bx l = some (q, o, l') -> (∀ p ∈ q, p) -> RepL K pl l vs -> RepL (QC K pl bx w) vK l' vs /\ (o = false -> RepL K vK l' vs)
 | [], q, o, l', vs, h, _, hr => by
   simp [kA] at h; obtain ⟨rfl, rfl, rfl⟩ := h
   simp only [RepL] at hr |-; exact ⟨hr, fun _ => hr⟩
 | d :: l, q, o, l', vs, h, hq, hr => by
   simp only [kA] at h
   split at h
   ·rename_i p o1 d1 hd
    split at h
    ·rename_i q2 o2 l2 hl
     simp at h; obtain ⟨rfl, rfl, rfl⟩ := h
     simp only [RepL] at hr
     obtain ⟨v, r, rfl, h2, h3⟩ := hr
     obtain ⟨h4, h5⟩ := kj2 hi d _ _ _ v hd (fun x hx => hq x (by simp [hx])) h2
     obtain ⟨h6, h7⟩ := ZB hi l _ _ _ r hl (fun x hx => hq x (by simp [hx])) h3
     simp only [RepL]
     refine ⟨⟨v, r, rfl, h4, h6⟩, fun ho => ?_⟩
     cases o1 with
     | true => simp at ho
     | false => exact ⟨v, r, rfl, h5 rfl, h7 ho⟩
    ·cases h
   ·cases h
end
end
section
variable {P : Program} {gt : Nat -> Option (List D)} {g : G} {env : x4} {bx : List Ent} {dst : Option Tmp} {ty : TypeId} {pos : String} {after : Array Edge} {guard : Option (Nat × Bool)}
theorem va {f : Nat} (hok : jI9 P f) (args : Array Value) (w : World) : (callFunc f args).run P w = .ok (.enter f args) w := by
 obtain ⟨fn, hf, hn, hb⟩ := hok
 have hbn : fn.body ≠ none := by cases h : fn.body <;> simp [h] at hb |-
 have hn' : fn.name ≠ "runtime.NumGoroutine" := by simpa using hn
 simp [callFunc, Sem.run_bind, run_program, hf, hn', hbn]
theorem kI1 {eff : Bool} {f : Nat} {args : Array Operand} {ts : Array TypeId} {xs : List X} (hx : zF P args.toList ts.toList = some xs) :
  ResOk P gt ⟨dst, .call { callee := .value (.func f), args := args, argTypes := ts }, ty, pos, after, guard⟩ (.call eff f xs) g env bx (jl gt (.call eff f xs) g env bx) := by
 have key : ∀ (g : G) (ds : List D) (eff' : Bool), kq env g xs = some ds -> ResOk P gt ⟨dst, .call { callee := .value (.func f), args := args, argTypes := ts }, ty, pos, after, guard⟩ (.call eff f xs) g env bx (.call [] eff' f ds) := by
  intro g ds eff' hds F K pl w a hF hi hs hg hq hok
  have h1 := yu (K := K) (pl := pl) hg hx hs hds
  refine ⟨args.map a.eval, ?_, by simpa using h1⟩
  simp [execOp, resolve, Act.eval, Deferred.ofValue, invoke, Sem.run_bind, va hok]
 simp only [jl]
 split
 ·rename_i h; exact key _ _ _ h
 ·rename_i h; exact key _ _ _ h
 ·trivial
theorem kx0 {l : List Nat} {f : Nat} {args : Array Operand} {ts : Array TypeId} {xs : List X} (hx : zF P args.toList ts.toList = some xs) :
  ResOk P gt ⟨dst, .call { callee := .value (.func f), args := args, argTypes := ts }, ty, pos, after, guard⟩ (.callK l f xs) g env bx (jl gt (.callK l f xs) g env bx) := by
 simp only [jl]
 split
 ·rename_i ds hds
  intro F K pl w a hF hi hs hg hq hok
  have h1 := yu (K := K) (pl := pl) hg hx hs hds
  refine ⟨args.map a.eval, ?_, by simpa using h1⟩
  simp [execOp, resolve, Act.eval, Deferred.ofValue, invoke, Sem.run_bind, va hok]
 ·trivial
theorem kx1 {f : Nat} {args : Array Operand} {ts : Array TypeId} {xs : List X} (hx : zF P args.toList ts.toList = some xs) :
  ResOk P gt ⟨dst, .call { callee := .value (.func f), args := args, argTypes := ts }, ty, pos, after, guard⟩ (.callC f xs) g env bx (jl gt (.callC f xs) g env bx) := by
 simp only [jl]
 split
 ·rename_i ds hds
  intro F K pl w a hF hi hs hg hq hok
  have h1 := yu (K := K) (pl := pl) hg hx hs hds
  refine ⟨args.map a.eval, ?_, by simpa using h1⟩
  simp [execOp, resolve, Act.eval, Deferred.ofValue, invoke, Sem.run_bind, va hok]
 ·trivial
theorem kw9 {n f : Nat} {args : Array Operand} {ts : Array TypeId} {xs : List X} (hx : zF P args.toList ts.toList = some xs) :
  ResOk P gt ⟨dst, .call { callee := .value (.func f), args := args, argTypes := ts }, ty, pos, after, guard⟩ (.callN n f xs) g env bx (jl gt (.callN n f xs) g env bx) := by
 simp only [jl]
 split
 ·rename_i ds hds
  intro F K pl w a hF hi hs hg hq hok
  have h1 := yu (K := K) (pl := pl) hg hx hs hds
  refine ⟨args.map a.eval, ?_, by simpa using h1⟩
  simp [execOp, resolve, Act.eval, Deferred.ofValue, invoke, Sem.run_bind, va hok]
 ·trivial
theorem kw8 {l : List Nat} {f : Nat} {args : Array Operand} {ts : Array TypeId} {xs : List X} (hx : zF P args.toList ts.toList = some xs) :
  ResOk P gt ⟨dst, .call { callee := .value (.func f), args := args, argTypes := ts }, ty, pos, after, guard⟩ (.callR l f xs) g env bx (jl gt (.callR l f xs) g env bx) := by
 simp only [jl]
 split
 ·rename_i ds hds
  intro F K pl w a hF hi hs hg hq hok
  have h1 := yu (K := K) (pl := pl) hg hx hs hds
  refine ⟨args.map a.eval, ?_, by simpa using h1⟩
  simp [execOp, resolve, Act.eval, Deferred.ofValue, invoke, Sem.run_bind, va hok]
 ·trivial
theorem kw7 {eff : Bool} {s : Nat} {args : Array Operand} {ts : Array TypeId} {xs : List X} (hx : zF P args.toList ts.toList = some xs) :
  ResOk P gt ⟨dst, .call { callee := .value (.tmp s), args := args, argTypes := ts }, ty, pos, after, guard⟩ (.callv eff (.t s) xs) g env bx (jl gt (.callv eff (.t s) xs) g env bx) := by
 have key : ∀ (g : G) (f : Nat) (caps ds : List D) (eff' : Bool), jL env g (.t s) = some (.fn f caps) -> kq env g xs = some ds ->
   ResOk P gt ⟨dst, .call { callee := .value (.tmp s), args := args, argTypes := ts }, ty, pos, after, guard⟩ (.callv eff (.t s) xs) g env bx (.call [] eff' f (List.append ds caps)) := by
  intro g f caps ds eff' hfn hds F K pl w a hF hi hs hg hq hok
  have h1 := yu (K := K) (pl := pl) hg hx (fun s' h => hs s' (List.mem_append_right _ h)) hds
  have h2 := kI (P := P) (t := 0) (x := .tmp s) (K := K) (pl := pl) (a := a) rfl (fun s' h => hs s' (List.mem_append_left _ h)) hg hfn
  simp only [Rep] at h2
  obtain ⟨cs, h3, h4⟩ := h2
  refine ⟨args.map a.eval ++ cs.toArray, ?_, ?_⟩
  ·simp [execOp, resolve, h3, Deferred.ofValue, invoke, Sem.run_bind, va hok]
  ·have := h1.append h4
   simpa using this
 simp only [jl]
 split
 ·rename_i h1 h2; exact key _ _ _ _ _ h1 h2
 ·rename_i h1 h2; exact key _ _ _ _ _ h1 h2
 ·trivial
theorem kS2 {f : Nat} {caps : Array Operand} {xs : List X} (hx : zF P caps.toList (List.replicate caps.size 0) = some xs) :
  ResOk P gt ⟨dst, .makeFunc (.func f) #[] caps, ty, pos, after, guard⟩ (.clo f xs) g env bx (jl gt (.clo f xs) g env bx) := by
 simp only [jl]
 split
 ·rename_i ds hds
  refine ResOk.pure ?_
  intro F K pl w a hF hi hs hg hp
  have h1 := yu (K := K) (pl := pl) hg hx hs hds
  refine ⟨.func (.func f) #[] (caps.toList.map a.eval).toArray, ?_, by simp only [Rep]; exact ⟨caps.toList.map a.eval, rfl, h1⟩⟩
  have e : caps.map a.eval = (caps.toList.map a.eval).toArray := by apply Array.ext'; simp
  simp only [execOp, Instr.makeFunc, e]
  simp
 ·trivial
theorem ZR {t : TypeId} {a : Act} : ∀ {n : Nat} {ps : List (Nat × Operand)} {xs : List X}, vS P t n ps = some xs -> zF P (ps.map (·.2)) (List.replicate ps.length t) = some xs /\ (ps.map fun p => (p.1, a.eval p.2)) = ((ps.map fun p => a.eval p.2).zipIdx n).map fun p => (p.2, p.1)
 | n, [], xs, h => by simp [vS] at h; subst h; simp [zF]
 | n, (i, x) :: r, xs, h => by
   simp only [vS] at h
   split at h
   ·rename_i hi
    subst hi
    split at h
    ·rename_i x' l hx hl
     cases h
     obtain ⟨h1, h2⟩ := ZR (a := a) hl
     exact ⟨by simp [zF, hx, h1, List.replicate_succ], by simp [h2]⟩
    ·cases h
   ·cases h
theorem Y1 {t : TypeId} : ∀ (k : Nat) (ps : List (Nat × Operand)) (xs : List X), vS P t k ps = some xs -> xs.length = ps.length
 | _, [], xs, h => by simp [vS] at h; subst h; rfl
 | k, (i, x) :: ps, xs, h => by
   simp only [vS] at h
   split at h
   ·split at h
    ·rename_i l _ hl; cases h; simp [Y1 _ _ _ hl]
    ·cases h
   ·cases h
theorem jG9 {t e : TypeId} {n s : Nat} {parts : Array (Nat × Operand)} {an : Option Nat} {xs : List X} {a : Act} (hu : P.underlying t = some (.slice e)) (hs' : zl P e = some s) (hc : vS P e 0 parts.toList = some xs)
  (hlen : xs.length = n) (hs0 : 0 < s) (hsmall : n * s <= 4096) (hz : ((P.info? e).bind (·.zero)).isSome = true) {vs : List Value} (hvs : parts.toList.map (fun p => a.eval p.2) = vs) (h5 : sized s vs) (w : World) :
  ∃ r : Array Value, (execOp a.eval ⟨dst, .buildSlice t n parts, ty, pos, after, guard⟩).run P w = .ok (.value (.slice (some ⟨w.heap.size, 0, none⟩) n n)) (w.alloc (.cells r e)) /\ r.toList = qa vs /\ vs.length = n := by
 obtain ⟨h1, h2⟩ := ZR (a := a) hc
 have hvl : vs.length = n := by
  have := congrArg List.length h2
  have h6 := Y1 _ _ _ hc
  rw [<- hvs]; simp at h6 |-; omega
 obtain ⟨zv, inf, hinf, hz1⟩ : ∃ zv inf, P.info? e = some inf /\ inf.zero = some zv := by
  cases hi' : P.info? e with
  | none => simp [hi'] at hz
  | some inf => cases hz' : inf.zero with
    | none => simp [hi', hz'] at hz
    | some zv => exact ⟨zv, inf, rfl, hz'⟩
 have hzr : (zeroValue e).run P w = .ok zv w := by simp [zeroValue, typeInfo, hinf, hz1]
 have hsr := qW hs' w
 let zc : Array Value := if n * s = 0 then #[] else zv.cells
 obtain ⟨r, h6, h7⟩ := jD8 (sz := s) 0 vs 0 ((Array.range (n * s)).map (zc[· % zc.size]!)) [] h5 (by simp) (by simp) (by simp [hvl])
 have hparts : (parts.map fun (p : Nat × Operand) => (p.1, a.eval p.2)).toList = (vs.zipIdx 0).map fun p => (p.2, p.1) := by
  rw [Array.toList_map, h2, <- hvs]
 refine ⟨r, ?_, by simpa using h7, hvl⟩
 have hbig : ¬ n * s > 2 ^ 24 := by omega
 have hrun : (Instr.buildSlice t n (parts.map fun (p : Nat × Operand) => (p.1, a.eval p.2))).run P w = .ok (.slice (some ⟨w.heap.size, 0, none⟩) n n) (w.alloc (.cells r e)) := by
  have h6' : Instr.fill (fun i => some (i * s, s)) ((Array.range (n * s)).map (zc[· % zc.size]!)) (parts.map fun (p : Nat × Operand) => (p.1, a.eval p.2)).toList = some r := by rw [hparts]; exact h6
  unfold Instr.buildSlice
  by_cases hz0 : n * s = 0
  ·have hzc : zc = #[] := by simp [zc, hz0]
   rw [hzc] at h6'
   have h16 : ¬ (0 > 2 ^ 24) := by omega
   simp only [hz0] at h6'
   simp only [Sem.run_bind, run_underlying hu w, Result.andThen_ok, hsr, hz0, if_neg h16, if_true, Sem.run_pure, h6']
   simp [newRow, newObj, Sem.run]
  ·have hzc : zc = zv.cells := by simp [zc, hz0]
   rw [hzc] at h6'
   simp only [Sem.run_bind, run_underlying hu w, Result.andThen_ok, hsr, if_neg hbig, Sem.run_pure, if_neg hz0, hzr, h6']
   simp [newRow, newObj, Sem.run]
 simp [execOp, hrun]
theorem kS5 {mode : Option Bool} {t e : TypeId} {n s : Nat} {parts : Array (Nat × Operand)} {an : Option Nat} {xs : List X} (hu : P.underlying t = some (.slice e)) (hs' : zl P e = some s) (han : ve P e = some an) (hc : vS P e 0 parts.toList = some xs)
  (hlen : xs.length = n) (hs0 : 0 < s) (hsmall : n * s <= 4096) (hz : ((P.info? e).bind (·.zero)).isSome = true) :
  ResOk P gt ⟨dst, .buildSlice t n parts, ty, pos, after, guard⟩ (.bsl mode e s an xs) g env bx (jl gt (.bsl mode e s an xs) g env bx) := by
 have hsz : an.getD 1 = s := by have := KF han; rw [hs'] at this; cases this; rfl
 have hrep : ∀ {K : Kn} {pl : Pl} {a : Act} {g : G} {ds : List D}, qo a g -> (∀ s ∈ QW xs, SlotOk K pl env a s) -> kq env g xs = some ds -> RepL K pl ds (parts.toList.map fun p => a.eval p.2) := fun {K pl a g ds} hg hs hds => by
  obtain ⟨h1, h2⟩ := ZR (a := a) hc
  have h3 := yu (K := K) (pl := pl) hg h1 hs hds
  simpa [List.map_map, Function.comp_def] using h3
 simp only [jl]
 split
 ·rename_i ds hds
  split
  ·rename_i hcl
   rw [qw] at hcl
   intro F K pl w a hF hi hs hg hq
   have h3 := hrep hg hs hds
   have h4 := zj _ _ hcl.1 h3
   have h5 := yJ hsz h3 hcl.2
   obtain ⟨r, h6, h7, h8⟩ := jG9 (dst := dst) (ty := ty) (pos := pos) (after := after) (guard := guard) (an := an) hu hs' hc hlen hs0 hsmall hz rfl h5 w
   obtain ⟨h9, h10⟩ := hi.newRow (.cells r e)
   refine ⟨_, _, _, pl, .inl h6, h9, PLe.refl _, h10, ?_⟩
   simp only [Rep]
   refine ⟨_, _, _, rfl, ?_, Nat.le_refl _, nofun, .inr ⟨w.heap.size, 0, _, rfl, RepL.mono h9 (PLe.refl _) _ _ h4, r, e, (0, 0), by simp [xk], h5, ?_⟩⟩
   ·rw [<- h8]; exact h4.length
   ·rw [List.drop_zero, h7]; simp
  ·trivial
 ·rename_i ds hds
  split
  ·rename_i hcl
   rw [qw] at hcl
   intro F K pl w a hF hi hs hg hq
   have h3 := hrep hg hs hds
   have h4 := zj _ _ hcl.1 h3
   have h5 := yJ hsz h3 hcl.2
   obtain ⟨r, h6, h7, h8⟩ := jG9 (dst := dst) (ty := ty) (pos := pos) (after := after) (guard := guard) (an := an) hu hs' hc hlen hs0 hsmall hz rfl h5 w
   have hdl : ds.length = n := by rw [<- h8]; exact h4.length.symm
   rw [kK, qT]
   have hadd := hi.add1 (w' := w.alloc (.cells r e)) (.slice (some ⟨w.heap.size, 0, none⟩) n n) (.arr e s 1 ds) (fun b hb => by simp [jW, jY, vj] at hb; omega) (Chg.alloc w _) (by
    refine ⟨_, _, jY _ _ _ _, ⟨?_, .inr ⟨w.heap.size, n, r, by rw [hdl], Nat.zero_le _, vh w _, by rw [hdl]; exact Nat.le_refl _, ?_, ?_, ?_⟩⟩, h4, h5, ?_, fun ver' hv => ?_, fun e0 => absurd e0 (by omega)⟩
    ·rw [qu h5, hdl, h8]
    ·have : n <= n * s := Nat.le_mul_of_pos_right _ hs0
     unfold maxLen; omega
    ·have := congrArg List.length h7
     rw [qu h5, h8] at this
     simpa using this
    ·rw [h7, hdl, List.take_of_length_le]
     rw [qu h5, h8]; exact Nat.le_refl _
    ·intro b hb
     simp [Value.ownBlock] at hb
     rw [<- hb]; exact hi.fresh
    ·rw [qb (.inr (by omega)), qb (.inr (by omega))]
     exact hi.tab.free _ _ (Nat.le_refl _))
   exact ⟨_, _, K, _, .inl h6, KLe.refl _, hadd.1, hadd.2, by simp only [Rep]; exact ⟨jY _ _ _ _, _, _, _, rfl⟩⟩
  ·trivial
 ·rename_i ds hds
  split
  ·rename_i q ds' bx' hrw hfz
   intro F K pl w a hF hi hs hg hq
   have h3 := hrep hg hs hds
   have h5 := yJ hsz h3 hrw
   obtain ⟨K1, g1, g2, g3⟩ := Z9 _ hfz hq hi h3
   obtain ⟨r, h6, h7, h8⟩ := jG9 (dst := dst) (ty := ty) (pos := pos) (after := after) (guard := guard) (an := an) hu hs' hc hlen hs0 hsmall hz rfl h5 w
   obtain ⟨h9, h10⟩ := g2.newRow (.cells r e)
   refine ⟨_, _, _, pl, .inl h6, g1.trans h9, PLe.refl _, h10, ?_⟩
   simp only [Rep]
   refine ⟨_, _, _, rfl, ?_, Nat.le_refl _, nofun, .inr ⟨w.heap.size, 0, _, rfl, RepL.mono h9 (PLe.refl _) _ _ g3, r, e, (0, 0), by simp [xk], h5, ?_⟩⟩
   ·rw [<- h8]; exact g3.length
   ·rw [List.drop_zero, h7]; simp
  ·trivial
 ·trivial
theorem ki0 {e : TypeId} {sz : Nat} (op : Op) (hop : op = .move (.const (.slice none 0 0)) \/ op = .assign (.const (.slice none 0 0))) :
  ResOk P gt ⟨dst, op, ty, pos, after, guard⟩ (.nilS e sz) g env bx (jl gt (.nilS e sz) g env bx) := by
 simp only [jl]
 split
 ·intro F K pl w a hF hi hs hg hq
  rw [kK, qT]
  have hp : PLe pl (qi pl bx.length 0 (.slice none 0 0)) := zX (hi.tab.free _ _ (Nat.le_refl _))
  have hadd := hi.add (w' := w) (.slice none 0 0) (.arr e sz 0 []) (.inl (by simp [jW, jY, vj])) (Chg.refl _ _) (by
   refine ⟨.slice none 0 0, [], jY _ _ _ _, World.ownsRow_nil _ _ _ _, by simp [RepL], fun v hv => (by cases hv), by simp [Value.ownBlock], fun ver' hv => ?_, fun _ _ => rfl⟩
   rw [qb (.inr (by omega))]
   exact hi.tab.free _ _ (Nat.le_refl _))
  refine ⟨.slice none 0 0, w, K, _, .inl ?_, KLe.refl _, hp, hadd.2, ?_⟩
  ·rcases hop with rfl | rfl <;> simp [execOp, Act.eval]
  ·simp only [Rep]; exact ⟨jY _ _ _ _, none, 0, 0, rfl⟩
 ·trivial
theorem ki1 {e : TypeId} {sz : Nat} (op : Op) (hop : op = .move (.const (.slice none 0 0)) \/ op = .assign (.const (.slice none 0 0))) :
  ResOk P gt ⟨dst, op, ty, pos, after, guard⟩ (.nilF e sz) g env bx (jl gt (.nilF e sz) g env bx) := by
 simp only [jl]
 intro F K pl w a hF hi hs hg hq
 refine ⟨.slice none 0 0, w, K, pl, .inl ?_, KLe.refl _, PLe.refl _, hi, ?_⟩
 ·rcases hop with rfl | rfl <;> simp [execOp, Act.eval]
 ·simp only [Rep]; exact ⟨none, 0, 0, rfl, rfl, Nat.le_refl _, fun _ => rfl, by simp⟩
/-! ### What is made -/
theorem ko8 {sz : Nat} {zc : Array Value} {z : Value} (hz : z.cells = zc) (hs : zc.size = sz) (h0 : 0 < sz) (l c : Nat) (h : l <= c) : (madeCells zc (c * sz)).toList.take (l * sz) = qa (List.replicate l z) := by
 apply List.ext_getElem?
 intro i
 have hfl : ∀ (l i : Nat), (qa (List.replicate l z))[i]? = if i < l * sz then zc[i % sz]? else none := by
  intro l
  induction l with
  | zero => intro i; simp [qa]
  | succ l ih =>
    intro i
    have e : qa (List.replicate (l + 1) z) = z.cells.toList ++ qa (List.replicate l z) := by simp [qa, List.replicate_succ]
    rw [e, List.getElem?_append, hz]
    simp only [Array.length_toList, hs]
    split
    ·rename_i hi
     rw [if_pos (by rw [Nat.add_mul]; omega), Nat.mod_eq_of_lt hi]; simp
    ·rename_i hi
     rw [ih]
     have e2 : (i - sz) % sz = i % sz := by
      have : i = (i - sz) + sz := by omega
      conv => rhs; rw [this]
      simp
     rw [e2]
     by_cases h : i - sz < l * sz
     ·rw [if_pos h, if_pos (by rw [Nat.add_mul]; omega)]
     ·rw [if_neg h, if_neg (by rw [Nat.add_mul]; omega)]
 rw [hfl, List.getElem?_take]
 split
 ·rename_i hi
  have hic : i < c * sz := Nat.lt_of_lt_of_le hi (Nat.mul_le_mul_right _ h)
  have hm : i % sz < zc.size := by rw [hs]; exact Nat.mod_lt _ h0
  simp [madeCells, hic, hs, hm]
  rw [getElem!_pos zc (i % sz) hm, Array.getElem?_eq_getElem hm]
 ·rfl
theorem jN5 {e : TypeId} {n : Option Nat} {z : List D} {r : D} {zv : Value} (han : ve P e = some n) (hsz : zv.cells.size = n.getD 1) (hz : yy z zv.cells.toList = true) (hr : ji2 n z = some r) (K : Kn) (pl : Pl) :
  ∃ v, Rep K pl r v /\ v.cells = zv.cells /\ ∀ c ∈ v.cells.toList, c.oneCell' = true := by
 obtain ⟨h3, h4⟩ := vO K pl hz
 cases n with
 | some n =>
   simp [ji2] at hr; subst hr
   exact ⟨.agg zv.cells, by simp only [Rep]; exact ⟨zv.cells.toList, by simp, h3, h4⟩, rfl, h4⟩
 | none =>
   cases z with
   | nil => simp [ji2] at hr
   | cons d z =>
     cases z with
     | cons _ _ => simp [ji2] at hr
     | nil =>
       simp [ji2] at hr; subst hr
       simp only [RepL] at h3
       obtain ⟨v, r, h5, h6, rfl⟩ := h3
       have h7 : v.cells = zv.cells := by
        apply Array.ext'
        rw [h5]
        have h8 : ka8 d v = true := by rw [h5] at hz; simpa [yy] using hz
        unfold ka8 at h8
        split at h8 <;> first | rfl | (simp at h8)
       exact ⟨v, h6, h7, by rw [h7]; exact h4⟩
theorem kR3 {t e : TypeId} {i : TypeInfo} {n : Option Nat} {z : List D} {l c : Operand} {l' c' : X} (ht : P.underlying t = some (.slice e)) (hi : P.info? e = some i) (hz : xB P e = some z) (han : ve P e = some n) (hsz : 0 < i.size) (hby : i.bytes <= 65536) (hzl : z.length = i.size)
  (hl : qm P 0 l = some l') (hc : qm P 0 c = some c') : ResOk P gt ⟨dst, .makeSlice t l c, ty, pos, after, guard⟩ (.mks e i.size n z l' c') g env bx (jl gt (.mks e i.size n z l' c') g env bx) := by
 simp only [jl]
 split
 ·rename_i _ _ r kl a1 kc b1 hzr hel hec
  intro F K pl w a hF hI hs hg hp
  obtain ⟨h0, h1, h2⟩ := hp _ (List.mem_singleton.2 rfl)
  have hvl := kI (K := K) (pl := pl) hl (fun s h => hs s (List.mem_append_left _ h)) hg hel
  have hvc := kI (K := K) (pl := pl) hc (fun s h => hs s (List.mem_append_right _ h)) hg hec
  simp only [Rep] at hvl hvc
  obtain ⟨zv, _, hz2, i2, hz3, hz4⟩ := x6 hz w
  rw [hi] at hz3; cases hz3
  have hn1 : i.size = n.getD 1 := by have := KF han; simpa [zl, hi] using this
  have hzlen : zv.cells.size = i.size := by
   have := (vO K vK hz2).1.length
   simp at this; omega
  have hbytes : (i.bytes : Int) * b1 <= 281474976710656 := by
   have h3 : (i.bytes : Int) * b1 <= 65536 * 4294967296 := Int.mul_le_mul (by omega) h2 (by omega) (by omega)
   omega
  have hrun := run_make (P := P) w t e i zv ht hi hz4 kl kc a1 b1 h0 h1 hbytes (by omega)
  obtain ⟨v, hv1, hv2, hv3⟩ := jN5 han (by rw [hzlen, hn1]) hz2 hzr K vK
  rw [kK, qT]
  have hle : a1.toNat <= b1.toNat := by omega
  have hsized : sized i.size (List.replicate a1.toNat v) := fun u hu => by
   rw [List.eq_of_mem_replicate hu, hv2]; exact ⟨hzlen, by rw [<- hv2]; exact hv3⟩
  have hadd := hI.add1 (w' := w.alloc (.cells (madeCells zv.cells (b1.toNat * i.size)) e)) (.slice (some ⟨w.heap.size, 0, none⟩) a1.toNat b1.toNat) (.arr e i.size 1 (List.replicate a1.toNat r)) (fun b hb => by simp [jW, jY, vj] at hb; omega) (Chg.alloc w _) (by
   refine ⟨_, List.replicate a1.toNat v, jY _ _ _ _, ⟨?_, .inr ⟨w.heap.size, b1.toNat, _, by simp, Nat.zero_le _, vh w _, by simpa using hle, by unfold maxLen; omega, size_madeCells _ _, ?_⟩⟩, ?_, hsized, ?_, fun ver' hv => ?_, fun e0 => absurd e0 (by omega)⟩
   ·rw [qu hsized]; simp
   ·simp only [List.length_replicate]
    exact ko8 hv2 hzlen hsz _ _ hle
   ·generalize a1.toNat = m
    induction m with
    | zero => simp [RepL]
    | succ m ih => simp only [List.replicate_succ, RepL]; exact ⟨v, _, rfl, hv1, ih⟩
   ·intro b hb
    simp [Value.ownBlock] at hb
    rw [<- hb]; exact hI.fresh
   ·rw [qb (.inr (by omega)), qb (.inr (by omega))]
    exact hI.tab.free _ _ (Nat.le_refl _))
  refine ⟨_, _, K, _, .inl ?_, KLe.refl _, hadd.1, hadd.2, by simp only [Rep]; exact ⟨jY _ _ _ _, _, _, _, rfl⟩⟩
  simp [execOp, hvl, hvc, hrun]
 ·trivial
end
end Go.AM
set_option linter.all false
namespace Go.AM
open Go Go.RowKit
theorem jt1 {sz : Nat} {vs : List Value} (h : sized sz vs) : ∀ u ∈ qa vs, u.oneCell' = true := fun u hu => by
 obtain ⟨v, hv, hu⟩ := List.mem_flatMap.1 hu
 exact (h v hv).2 u hu
section
variable {P : Program} {gt : Nat -> Option (List D)} {g : G} {env : x4} {bx : List Ent} {dst : Option Tmp} {ty : TypeId} {pos : String} {after : Array Edge} {guard : Option (Nat × Bool)}
theorem jp1 {w : World} {t e : TypeId} {i : TypeInfo} {z : Value} (ht : P.underlying t = some (.slice e)) (hi : P.info? e = some i) (hz : i.zero = some z) (hzs : z.cells.size = i.size) (hsz : 0 < i.size) (hby : i.bytes <= 4096)
  {v : Value} {n : Nat} {xs : List Value} (hown : w.ownsRow 0 e i.size v n xs) {a : Option Addr} {m c : Nat} {news : List Value} (hl : news.length = m * i.size) (ha : a = none -> m = 0 /\ c = 0)
  (hnews : ∀ ad, a = some ad -> ∀ j u, news[j]? = some u -> w.cell? (ad.add j) = some u) (h1 : ∀ u ∈ news, u.oneCell' = true) (hlt : (n + m) * i.bytes <= 140737488355328 /\ n + m <= 140737488355328)  :
  ∃ v' w', (Builtin.append_ #[t, t] ty #[v, .slice a m c]).run P w = .ok v' w' /\ w'.ownsRow 0 e i.size v' (n + m) (xs ++ news) /\ w.grownBy w' v.ownBlock /\ (∀ b, v'.ownBlock = some b -> v.ownBlock = some b \/ w.heap.size <= b) := by
 cases a with
 | none =>
   obtain ⟨rfl, rfl⟩ := ha rfl
   have hnil : news = [] := List.eq_nil_of_length_eq_zero (by simpa using hl)
   subst hnil
   exact ⟨v, w, run_append_owned_none w 0 t ty e i i.size ht hi v n xs hown, by simpa using hown, ⟨rfl, rfl, rfl, Nat.le_refl _, fun _ _ _ => rfl⟩, fun b hb => .inl hb⟩
 | some ad =>
   have hnews := hnews ad rfl
   have hbytes := hlt.1
   have hmax : n + m <= maxLen := by unfold maxLen; omega
   obtain ⟨v', w', h2, h3, h4, h5⟩ := run_append_own (P := P) w 0 t ty e i z i.size i.bytes ht hi hz rfl rfl hzs hsz v n xs hown ad m c news hl hnews h1 hmax hbytes (Nat.zero_le _)
   refine ⟨v', w', h2, h3, h4, fun b hb => ?_⟩
   rcases hown.2 with ⟨rfl, rfl⟩ | ⟨g, cap, cur, rfl, hbg, hg, hnc, hcm, hcs, htake⟩
   ·right
    obtain ⟨v2, w2, h6, h7, _⟩ := run_append_own (P := P) w w.heap.size t ty e i z i.size i.bytes ht hi hz rfl rfl hzs hsz (.slice none 0 0) 0 xs ⟨hown.1, .inl ⟨rfl, rfl⟩⟩ ad m c news hl hnews h1 hmax hbytes (Nat.le_refl _)
    rw [h2] at h6; cases h6
    exact (h7.lt b hb).1
   ·by_cases hroom : n + m <= cap
    ·left
     have hfit : n * i.size + news.length <= cur.size := by rw [hl, hcs, <- Nat.add_mul]; exact Nat.mul_le_mul_right _ hroom
     have hr := run_append_room (P := P) w t ty e i ht hi g n cap cur hg ad m c news hl hnews h1 hroom hfit
     rw [h2] at hr; cases hr
     simpa [Value.ownBlock] using hb
    ·right
     have qo : ∀ j u, xs[j]? = some u -> w.cell? ((⟨g, 0, none⟩ : Addr).add j) = some u := hown.cells (g := g) rfl
     have hr := run_append_grow (P := P) w t ty e i z ht hi hz ⟨g, 0, none⟩ n cap xs hown.1 qo ad m c news hl hnews (by omega) (by unfold maxLen at hmax; omega) (growslice_fits (by omega) hbytes)
     rw [h2] at hr; cases hr
     simp [Value.ownBlock] at hb; omega
theorem jW8 {v : Value} (h : ∃ a n c, v = .slice a n c) {b : Nat} : vj v = some b ↔ v.ownBlock = some b := by
 obtain ⟨a, n, c, rfl⟩ := h
 cases a <;> simp [vj, Value.ownBlock]
theorem jq6 {w : World} {e : TypeId} {sz n : Nat} {v : Value} {xs : List Value} (h : w.ownsRow 0 e sz v n xs) : ∃ a n c, v = .slice a n c := by
 rcases h.2 with ⟨rfl, _⟩ | ⟨g, cap, cur, rfl, _⟩ <;> exact ⟨_, _, _, rfl⟩
theorem ki8 {K : Kn} {pl : Pl} {w : World} (hmod : ∀ b o, K b = some o -> w.heap[b]? = some o) {sz : Nat} {m : List D} {v : Value} (h : Rep K pl (.ls sz m) v) :
  ∃ ao n c us, v = .slice ao n c /\ n = m.length /\ RepL K vK m us /\ sized sz us /\ (ao = none -> m.length = 0 /\ c = 0) /\ (∀ ad, ao = some ad -> ∀ j u, (qa us)[j]? = some u -> w.cell? (ad.add j) = some u) := by
 simp only [Rep] at h
 obtain ⟨ao, n, c, h9, rfl, _, h10, h11⟩ := h
 rcases h11 with rfl | ⟨b, off, us, rfl, h12, cs, T, fz, h13, h14, h15⟩
 ·exact ⟨ao, _, c, [], h9, rfl, by simp [RepL], fun v hv => (by cases hv), fun h => ⟨rfl, h10 h⟩, fun ad _ j u hju => by simp [qa] at hju⟩
 ·refine ⟨_, _, c, us, h9, rfl, h12, h14, nofun, fun ad had j u hju => ?_⟩
  cases had
  rw [Addr.add_mid]
  exact qJ (hmod _ _ h13) h15 j u hju
theorem jS5 {K : Kn} {pl : Pl} {w : World} {k : Nat} {e : TypeId} {sz ver : Nat} {m : List D} (h : EntOk K pl w k (.arr e sz ver m)) :
  ∃ v ao n c us, pl k ver = some v /\ v = .slice ao n c /\ n = m.length /\ RepL K vK m us /\ sized sz us /\ (ao = none -> m.length = 0 /\ c = 0) /\ (∀ ad, ao = some ad -> ∀ j u, (qa us)[j]? = some u -> w.cell? (ad.add j) = some u) := by
 obtain ⟨v, us, h1, h2, h3, h4, h5, h6⟩ := h
 rcases h2.2 with ⟨rfl, h7⟩ | ⟨g, cap, cur, rfl, _, h9, h10, h11, h12, h13⟩
 ·exact ⟨_, none, 0, 0, us, h1, rfl, h7.symm, h3, h4, fun _ => ⟨h7, rfl⟩, nofun⟩
 ·refine ⟨_, _, _, _, us, h1, rfl, rfl, h3, h4, nofun, fun ad had j u hju => ?_⟩
  cases had
  exact h2.cells (g := g) rfl j u hju
theorem jX4 {F : Fr} {K : Kn} {pl : Pl} {w : World} {t e : TypeId} {i : TypeInfo} {z : Value} (ht : P.underlying t = some (.slice e)) (hinf : P.info? e = some i) (hz : i.zero = some z) (hzs : z.cells.size = i.size) (hsz : 0 < i.size) (hby : i.bytes <= 4096)
  (hi : Inv F K pl bx w) {k ver : Nat} {rows m : List D} (hk : bx[k]? = some (.arr e i.size ver rows)) {v0 : Value} (hv : pl k ver = some v0) {us : List Value} (hu1 : RepL K vK m us) (hu2 : sized i.size us) {ao : Option Addr} {c : Nat}
  (hao : ao = none -> m.length = 0 /\ c = 0) (hu3 : ∀ ad, ao = some ad -> ∀ j u, (qa us)[j]? = some u -> w.cell? (ad.add j) = some u) (hlt : (rows.length + m.length) * i.bytes <= 140737488355328 /\ rows.length + m.length <= 140737488355328) :
  ∃ v' w', (Builtin.append_ #[t, t] ty #[v0, .slice ao m.length c]).run P w = .ok v' w' /\ PLe pl (qi pl k (ver + 1) v') /\ Inv F K (qi pl k (ver + 1) v') (bx.set k (.arr e i.size (ver + 1) (rows ++ m))) w' /\ ∃ a n c, v' = .slice a n c := by
 obtain ⟨v, vs, h3, h4, h5, h6, h7, h8⟩ := hi.tab.ok k _ hk
 rw [hv] at h3; cases h3
 have hul : (qa us).length = m.length * i.size := by rw [qu hu2, hu1.length]
 obtain ⟨v', w', h16, h17, h18, h19⟩ := jp1 (P := P) (ty := ty) ht hinf hz hzs hsz hby h4 hul hao hu3 (jt1 hu2) hlt
 have hpl : PLe pl (qi pl k (ver + 1) v') := zX (h8.1 (ver + 1) (by omega))
 have hslice := jq6 h17
 have hsl0 := jq6 h4
 have hblk0 : ∀ b, v0.ownBlock = some b ↔ jW pl k (.arr e i.size ver rows) = some b := fun b => by
  simp only [jW, hv, Option.bind_some]; exact (jW8 hsl0).symm
 refine ⟨v', w', h16, hpl, hi.upd hk hpl (fun k' ver' hne => qb (.inl hne)) (fun b hb => ?_) ⟨h18.os, h18.tape, h18.output, h18.size, fun b hb hn => h18.block b hb fun heq => hn ((hblk0 b).1 heq.symm)⟩ ?_, hslice⟩
 ·simp only [jW, jY, Option.bind_some] at hb
  rcases h19 b ((jW8 hslice).1 hb) with h20 | h20
  ·exact .inl ((hblk0 b).1 h20)
  ·exact .inr h20
 ·refine ⟨v', vs ++ us, jY _ _ _ _, by simpa [Jv] using h17, h5.append hu1, fun u hu => ?_, fun b hb => ?_, fun ver' hlt' => ?_, fun e0 => absurd e0 (by omega)⟩
  ·rcases List.mem_append.1 hu with hu | hu
   ·exact h6 u hu
   ·exact hu2 u hu
  ·rcases h19 b hb with h20 | h20
   ·exact h7 b h20
   ·cases hK : K b with
    | none => rfl
    | some o => have := (Array.getElem?_eq_some_iff.1 (hi.mod _ _ hK)).1; omega
  ·rw [qb (.inr (by omega))]; exact h8.1 ver' (by omega)
theorem kS9 {t e : TypeId} {i : TypeInfo} {z : Value} {x y : Operand} {x' y' : X} (ht : P.underlying t = some (.slice e)) (hinf : P.info? e = some i) (hz : i.zero = some z) (hzs : z.cells.size = i.size) (hsz : 0 < i.size) (hby : i.bytes <= 4096)
  (hx : qm P t x = some x') (hy : qm P t y = some y') :
  ResOk P gt ⟨dst, .call { callee := .builtin .append, args := #[x, y], argTypes := #[t, t] }, ty, pos, after, guard⟩ (.app e i.size i.bytes x' y') g env bx (jl gt (.app e i.size i.bytes x' y') g env bx) := by
 simp only [jl]
 split
 ·cases hd : jL env [] x' with
  | none => simp [qg, ResOk]
  | some d0 =>
    cases d0 <;> try (simp [qg, ResOk]; done)
    rename_i k ver
    cases he : jL env [] y' with
    | none => simp [qg, ResOk]
    | some d1 =>
      cases d1 <;> try (simp [qg, ResOk]; done)
      case ls sz' m =>
       simp only [qg]
       split
       ·rename_i e' sz'' ver' rows hk
        rw [kG] at hk
        intro F K pl w a hF hi hs hg hq
        have h1 := kI (K := K) (pl := pl) hx (fun s hs' => hs s (JA hs')) (kF a) hd
        have h2 := kI (K := K) (pl := pl) hy (fun s hs' => hs s (Jz hs')) (kF a) he
        obtain ⟨rfl, rfl, rfl, rfl, hlt⟩ := hq _ (List.mem_singleton.2 rfl)
        obtain ⟨ao, n, c, us, h9, rfl, hu1, hu2, hao, hu3⟩ := ki8 hi.mod h2
        simp only [Rep] at h1
        obtain ⟨v', w', h16, h17, h18, h19⟩ := jX4 (P := P) (ty := ty) ht hinf hz hzs hsz hby hi hk h1.1 hu1 hu2 hao hu3 hlt
        rw [qF]
        exact ⟨v', w', K, _, .inl (qz (cs := #[]) (fun cs => rfl) (by simp only [List.map_toArray, List.map_cons, List.map_nil]; rw [h9]; exact vx h16)), KLe.refl _, h17, h18, by simp only [Rep]; exact ⟨jY _ _ _ _, h19⟩⟩
       ·trivial
      case own k2 ver2 =>
       simp only [qg]
       split
       ·rename_i e' sz'' ver' rows _ sz' ver2' m hk hk2
        rw [kG] at hk hk2
        split
        ·rename_i hne
         intro F K pl w a hF hi hs hg hq
         have h1 := kI (K := K) (pl := pl) hx (fun s hs' => hs s (JA hs')) (kF a) hd
         have h2 := kI (K := K) (pl := pl) hy (fun s hs' => hs s (Jz hs')) (kF a) he
         obtain ⟨rfl, rfl, rfl, rfl, rfl, hlt⟩ := hq _ (List.mem_singleton.2 rfl)
         obtain ⟨v2, ao, n, c, us, h8, h9, rfl, hu1, hu2, hao, hu3⟩ := jS5 (hi.tab.ok _ _ hk2)
         simp only [Rep] at h1 h2
         rw [h2.1] at h8; cases h8
         obtain ⟨v', w', h16, h17, h18, h19⟩ := jX4 (P := P) (ty := ty) ht hinf hz hzs hsz hby hi hk h1.1 hu1 hu2 hao hu3 hlt
         rw [qF]
         exact ⟨v', w', K, _, .inl (qz (cs := #[]) (fun cs => rfl) (by simp only [List.map_toArray, List.map_cons, List.map_nil]; rw [h9]; exact vx h16)), KLe.refl _, h17, h18, by simp only [Rep]; exact ⟨jY _ _ _ _, h19⟩⟩
        ·trivial
       ·trivial
 ·trivial
/-! ### Copies -/
theorem kI7 (a b : Nat) : vg a b = Nat.min a b := by
 unfold vg; split
 ·rename_i h; exact (Nat.min_eq_left h).symm
 ·rename_i h; exact (Nat.min_eq_right (by omega)).symm
theorem jQ6 {α : Type} {x : α} : ∀ {l : List α} {k : Nat}, l[k]? = some x -> l.set k x = l
 | [], _, h => by simp at h
 | y :: l, 0, h => by simp at h; simp [h]
 | y :: l, k + 1, h => by simp at h; simp [jQ6 h]
def jB3 (vs us : List Value) : List Value := us.take vs.length ++ vs.drop (vg us.length vs.length)
theorem RepL.over {K : Kn} {pl : Pl} {rows m : List D} {vs us : List Value} (h : RepL K pl rows vs) (h' : RepL K pl m us) : RepL K pl (AM.over rows m) (jB3 vs us) := by
 unfold AM.over jB3
 rw [h.length, h'.length]
 exact (h'.take _).append (h.drop _)
theorem kw1 {rows m : List D} (h : over rows m = []) : rows = [] := by
 cases rows with
 | nil => rfl
 | cons x r =>
   cases m with
   | nil => simp [over, vg] at h
   | cons y m => simp [over] at h
theorem jt9 {F : Fr} {K : Kn} {pl : Pl} {w : World} {t e : TypeId} {sz : Nat} (ht : P.underlying t = some (.slice e)) (hinf : zl P e = some sz) (hsz : 0 < sz)
  (hi : Inv F K pl bx w) {k ver : Nat} {rows m : List D} (hk : bx[k]? = some (.arr e sz ver rows)) {v0 : Value} (hv : pl k ver = some v0) {us : List Value} (hu1 : RepL K vK m us) (hu2 : sized sz us) {ao : Option Addr} {c : Nat}
  (hao : ao = none -> m.length = 0) (hu3 : ∀ ad, ao = some ad -> ∀ j u, (qa us)[j]? = some u -> w.cell? (ad.add j) = some u) :
  ∃ w', (Builtin.copy_ #[t, t] ty #[v0, .slice ao m.length c]).run P w = .ok (.int .i64 (vg m.length rows.length)) w' /\ Inv F K pl (bx.set k (.arr e sz ver (over rows m))) w' := by
 obtain ⟨v, vs, h3, h4, h5, h6, h7, h8⟩ := hi.tab.ok k _ hk
 rw [hv] at h3; cases h3
 have hvl := h5.length
 have hul := hu1.length
 have hn1 : vg m.length rows.length <= us.length := by unfold vg; split <;> omega
 have hn2 : vg m.length rows.length <= vs.length := by unfold vg; split <;> omega
 have hn3 : vg us.length vs.length = vg m.length rows.length := by rw [hul, hvl]
 have hsp := xO hu2 _ hn1
 have hspv := xO h6 _ hn2
 have hlen : (qa (us.take (vg m.length rows.length))).length = vg m.length rows.length * sz := by rw [qu (hu2.take _), List.length_take, Nat.min_eq_left hn1]
 have hover : jB3 vs us = us.take (vg m.length rows.length) ++ vs.drop (vg m.length rows.length) := by
  unfold jB3
  rw [hn3]
  congr 1
  unfold vg
  split
  ·rw [List.take_of_length_le (by omega), List.take_of_length_le (by omega)]
  ·rw [hvl]
 have hovl : (over rows m).length = rows.length := by unfold over vg; split <;> simp <;> omega
 have hovs : sized sz (jB3 vs us) := fun u hu => by
  rw [hover] at hu
  rcases List.mem_append.1 hu with hu | hu
  ·exact (hu2.take _) u hu
  ·exact (h6.drop _) u hu
 have hfirst : (Builtin.firstCells sz (vg m.length rows.length) (.slice ao m.length c)).run P w = .ok (qa (us.take (vg m.length rows.length))).toArray w := by
  cases ao with
  | none =>
    have h0 : vg m.length rows.length = 0 := by have := hao rfl; unfold vg; split <;> omega
    rw [h0, run_firstCells_none]; simp [qa]
  | some ad =>
    refine run_firstCells_some w sz _ ad m.length c _ hlen fun j u hu => hu3 ad rfl j u ?_
    rw [<- hsp.1, List.getElem?_take] at hu
    split at hu
    ·exact hu
    ·cases hu
 have hsr := qW hinf w
 rcases h4.2 with ⟨rfl, h9⟩ | ⟨g', cap, cur, rfl, h9, h10, h11, h12, h13, h14⟩
 ·have h0 : vg m.length rows.length = 0 := by unfold vg; split <;> omega
  refine ⟨w, ?_, ?_⟩
  ·rw [h0] at hfirst
   have h0' : Nat.min m.length 0 = 0 := Nat.min_zero _
   rw [h0]
   simp [Builtin.copy_, Sem.run_bind, run_underlying ht, Builtin.lenOf, h0', hsr, hfirst, goInt]
  ·have e1 : over rows m = rows := by
    have := List.eq_nil_of_length_eq_zero h9; subst this
    simp [over]
   rw [e1, jQ6 hk]; exact hi
 ·have hmin : Nat.min m.length rows.length = vg m.length rows.length := (kI7 _ _).symm
  have hfit : 0 + 0 + (qa (us.take (vg m.length rows.length))).length <= cur.size := by
   rw [hlen, h13]
   have : vg m.length rows.length * sz <= cap * sz := Nat.mul_le_mul_right _ (by unfold vg; split <;> omega)
   omega
  have hst := run_storeCells_at P g' 0 e (qa (us.take (vg m.length rows.length))) 0 cur w h10 hfit (jt1 (hu2.take _))
  refine ⟨_, ?_, hi.upd (w' := w.setRow g' (qa (us.take (vg m.length rows.length)) ++ cur.toList.drop (vg m.length rows.length * sz)).toArray) hk (PLe.refl _) (fun _ _ _ => rfl) (fun b hb => .inl (by simpa [jW] using hb)) ⟨rfl, rfl, rfl, by simp, fun c hc hn' => setRow_other _ _ _ _ (fun e' => hn' (by simp [jW, hv, vj, e']))⟩ ?_⟩
  ·simp only [Nat.add_zero, List.take_zero, List.nil_append, Nat.zero_add, hlen] at hst
   simp [Builtin.copy_, Sem.run_bind, run_underlying ht, Builtin.lenOf, hmin, hsr, hfirst, goInt, hst]
  ·refine ⟨_, jB3 vs us, hv, ⟨?_, .inr ⟨g', cap, _, by rw [hovl], Nat.zero_le _, setRow_heap w g' _ _ e _ h10, by rw [hovl]; exact h11, h12, ?_, ?_⟩⟩, h5.over hu1, hovs, h7, h8.1, fun e0 e1 => h8.2 e0 (kw1 e1)⟩
   ·rw [qu hovs, (h5.over hu1).length]
   ·simp [hlen, h13]
    have : vg m.length rows.length * sz <= cap * sz := Nat.mul_le_mul_right _ (by unfold vg; split <;> omega)
    omega
   ·rw [hovl, hover, Jv, <- hspv.2]
    have hb : vg m.length rows.length * sz <= rows.length * sz := Nat.mul_le_mul_right _ (by omega)
    simp only [List.take_append, hlen]
    rw [List.take_of_length_le (by omega)]
    congr 1
    rw [<- h14, List.drop_take]
theorem kS1 {t e : TypeId} {i : TypeInfo} {x y : Operand} {x' y' : X} (ht : P.underlying t = some (.slice e)) (hinf : P.info? e = some i) (hsz : 0 < i.size) (hx : qm P t x = some x') (hy : qm P t y = some y') :
  ResOk P gt ⟨dst, .call { callee := .builtin .copy, args := #[x, y], argTypes := #[t, t] }, ty, pos, after, guard⟩ (.cpy e i.size x' y') g env bx (jl gt (.cpy e i.size x' y') g env bx) := by
 have hso : zl P e = some i.size := by simp [zl, hinf]
 simp only [jl]
 split
 ·cases hd : jL env [] x' with
  | none => simp [xX, ResOk]
  | some d0 =>
    cases d0 <;> try (simp [xX, ResOk]; done)
    rename_i k ver
    cases he : jL env [] y' with
    | none => simp [xX, ResOk]
    | some d1 =>
      cases d1 <;> try (simp [xX, ResOk]; done)
      case ls sz' m =>
       simp only [xX]
       split
       ·rename_i e' sz'' ver' rows hk
        rw [kG] at hk
        intro F K pl w a hF hi hs hg hq
        have h1 := kI (K := K) (pl := pl) hx (fun s hs' => hs s (JA hs')) (kF a) hd
        have h2 := kI (K := K) (pl := pl) hy (fun s hs' => hs s (Jz hs')) (kF a) he
        obtain ⟨rfl, rfl, rfl, rfl⟩ := hq _ (List.mem_singleton.2 rfl)
        obtain ⟨ao, n, c, us, h9, rfl, hu1, hu2, hao, hu3⟩ := ki8 hi.mod h2
        simp only [Rep] at h1
        obtain ⟨w', h16, h18⟩ := jt9 (P := P) (ty := ty) (c := c) ht hso hsz hi hk h1.1 hu1 hu2 (fun h => (hao h).1) hu3
        rw [qF]
        exact ⟨_, w', K, pl, .inl (qz (cs := #[]) (fun cs => rfl) (by simp only [List.map_toArray, List.map_cons, List.map_nil]; rw [h9]; exact vx h16)), KLe.refl _, PLe.refl _, h18, by simp only [Rep]⟩
       ·trivial
      case own k2 ver2 =>
       simp only [xX]
       split
       ·rename_i e' sz'' ver' rows _ sz' ver2' m hk hk2
        rw [kG] at hk hk2
        split
        ·rename_i hne
         intro F K pl w a hF hi hs hg hq
         have h1 := kI (K := K) (pl := pl) hx (fun s hs' => hs s (JA hs')) (kF a) hd
         have h2 := kI (K := K) (pl := pl) hy (fun s hs' => hs s (Jz hs')) (kF a) he
         obtain ⟨rfl, rfl, rfl, rfl, rfl⟩ := hq _ (List.mem_singleton.2 rfl)
         obtain ⟨v2, ao, n, c, us, h8, h9, rfl, hu1, hu2, hao, hu3⟩ := jS5 (hi.tab.ok _ _ hk2)
         simp only [Rep] at h1 h2
         rw [h2.1] at h8; cases h8
         obtain ⟨w', h16, h18⟩ := jt9 (P := P) (ty := ty) (c := c) ht hso hsz hi hk h1.1 hu1 hu2 (fun h => (hao h).1) hu3
         rw [qF]
         exact ⟨_, w', K, pl, .inl (qz (cs := #[]) (fun cs => rfl) (by simp only [List.map_toArray, List.map_cons, List.map_nil]; rw [h9]; exact vx h16)), KLe.refl _, PLe.refl _, h18, by simp only [Rep]⟩
        ·trivial
       ·trivial
      case bsl k2 base sz2 len =>
       simp only [xX]
       split
       ·rename_i e' sz'' ver' rows l hk hk2
        rw [kG] at hk hk2
        split
        ·rename_i h1s
         have h1s := Nat.eq_of_beq_eq_true h1s
         intro F K pl w a hF hi hs hg hq
         have h1 := kI (K := K) (pl := pl) hx (fun s hs' => hs s (JA hs')) (kF a) hd
         have h2 := kI (K := K) (pl := pl) hy (fun s hs' => hs s (Jz hs')) (kF a) he
         obtain ⟨rfl, rfl, rfl, rfl, hfit, hcl⟩ := hq _ (List.mem_singleton.2 rfl)
         simp only [Rep] at h1 h2
         obtain ⟨b, o, c, h3, h4, h5, h6⟩ := h2
         obtain ⟨b', T, cs, h7, h8, h9, h10, h11⟩ := hi.tab.ok k2 _ hk2
         rw [h3] at h7; cases h7
         have hu1 := zj _ _ hcl ((h10.drop base).take len)
         have hul := hu1.length
         have hml : ((l.drop base).take len).length = len := by simp; omega
         have hcell : ∀ u ∈ (cs.drop base).take len, u.oneCell' = true := fun u hu => h11 u (List.mem_of_mem_drop (List.mem_of_mem_take hu))
         have hone : ∀ u : Value, u.oneCell' = true -> u.cells = #[u] := fun u hu => by cases u <;> first | rfl | (simp [Value.oneCell'] at hu)
         have hu2 : sized i.size ((cs.drop base).take len) := fun u hu => by
          have := hcell u hu
          rw [hone u this]
          exact ⟨h1s.symm, by simp [this]⟩
         have hflat : ∀ vs : List Value, (∀ u ∈ vs, u.oneCell' = true) -> qa vs = vs := fun vs => by
          induction vs with
          | nil => intro _; rfl
          | cons v vs ih =>
            intro h
            have h1 := hone v (h v (by simp))
            have h2 := ih fun u hu => h u (by simp [hu])
            simp only [qa, List.flatMap_cons] at h2 |-
            rw [h2, h1]; rfl
         have key := jt9 (P := P) (ty := ty) (c := c) (ao := some ⟨b, o, none⟩) ht hso hsz hi hk h1.1 hu1 hu2 nofun (fun ad had j u hju => by
          cases had
          rw [Addr.add_mid]
          rw [hflat _ hcell] at hju
          rcases h6 with h6 | h6
          ·subst h6; simp at hju
          ·subst h6
           rw [Y4 h9, List.getElem?_toArray]
           rw [List.getElem?_take] at hju
           split at hju
           ·rwa [List.getElem?_drop] at hju
           ·cases hju)
         obtain ⟨w', h16, h18⟩ := key
         rw [hml] at h16
         rw [qF]
         exact ⟨_, w', K, pl, .inl (qz (cs := #[]) (fun cs => rfl) (by simp only [List.map_toArray, List.map_cons, List.map_nil]; rw [h4]; exact vx h16)), KLe.refl _, PLe.refl _, h18, by simp only [Rep]⟩
        ·trivial
       ·trivial
 ·trivial
end
end Go.AM
set_option linter.all false
namespace Go.AM
open Go Go.RowKit
section
variable {P : Program} {gt : Nat -> Option (List D)} {g : G} {env : x4} {bx : List Ent} {dst : Option Tmp} {ty : TypeId} {pos : String} {after : Array Edge} {guard : Option (Nat × Bool)}
theorem jb3 {t e : TypeId} {sz : Nat} (hu : P.underlying t = some (.slice e)) (hs : zl P e = some sz) {ad : Option Addr} {len cap : Nat} {lo hi : Option Operand} {a : Act} {l h : Int} (hlo : (lo = none /\ l = 0) \/ ∃ x k, lo = some x /\ a.eval x = .int k l) (hhi : (hi = none /\ h = len) \/ ∃ x k, hi = some x /\ a.eval x = .int k h)
  (h0 : 0 <= l) (h1 : l <= h) (h2 : h <= len) (hc : len <= cap) (w : World) {x : Operand} (hx : a.eval x = .slice ad len cap) :
  (execOp a.eval ⟨dst, .slice t x lo hi none, ty, pos, after, guard⟩).run P w = .ok (.value (.slice (if cap = l.toNat then ad else ad.map (·.add (l.toNat * sz))) (h.toNat - l.toNat) (cap - l.toNat))) w := by
 have hb := Xc (P := P) (isSlice := true) (len := len) (cap := cap) hlo hhi h0 h1 h2 hc w
 have hsr := qW hs w
 simp [execOp, Instr.sliceAt, Instr.slice, hx, Sem.run_bind, run_underlying hu, hb, hsr]
theorem kQ9 {eff : Bool} {t e : TypeId} {s : Nat} {x : Operand} {lo hi : Option Operand} {x' : X} {lo' hi' : Option X} (hu : P.underlying t = some (.slice e)) (hs' : zl P e = some s) (hx : qm P t x = some x') (hl : jx1 P lo = some lo') (hh : jx1 P hi = some hi') :
  ResOk P gt ⟨dst, .slice t x lo hi none, ty, pos, after, guard⟩ (.sls eff s x' lo' hi') g env bx (jl gt (.sls eff s x' lo' hi') g env bx) := by
 simp only [jl]
 cases he : jL env g x' with
 | none => simp [zT, ResOk]
 | some d0 =>
   cases d0 <;> try (simp [zT, ResOk]; done)
   case ls sz rows =>
    simp only [zT]
    split
    ·rename_i l h hl' hh'
     refine ResOk.pure ?_
     intro F K pl w a hF hi' hs hg hp
     obtain ⟨rfl, h0, h1, h2⟩ := hp _ (List.mem_singleton.2 rfl)
     have hv := kI (K := K) (pl := pl) hx (fun s h' => hs s (by simp [Jq, h'])) hg he
     have hlo := JL (F := F) (w := w) (K := K) (pl := pl) (a := a) hl (fun s h' => hs s (by simp [Jq, h'])) hg hl'
     have hhi := JL (F := F) (w := w) (K := K) (pl := pl) (a := a) hh (fun s h' => hs s (by simp [Jq, h'])) hg hh'
     obtain ⟨ad, len, cap, hv1, rfl, hc, hrep⟩ := jJ8 hv h0 h1 h2
     exact ⟨_, jb3 hu hs' hlo hhi h0 h1 h2 hc w hv1, hrep⟩
    ·trivial
   case own k ver =>
    simp only [zT]
    split
    ·rename_i e' sz' ver' rows hk
     rw [kG] at hk
     split
     ·rename_i l h hl' hh'
      intro F K pl w a hF hi' hs hg hp
      obtain ⟨rfl, rfl, h0, h1, h2⟩ := hp _ (List.mem_singleton.2 rfl)
      have hv0 := kI (K := K) (pl := pl) hx (fun s h' => hs s (by simp [Jq, h'])) hg he
      obtain ⟨K', g1, g2, g3⟩ := hi'.give hk
      simp only [Rep] at hv0
      have hv := g3 _ hv0.1
      have hlo := JL (F := F) (w := w) (K := K) (pl := pl) (a := a) hl (fun s h' => hs s (by simp [Jq, h'])) hg hl'
      have hhi := JL (F := F) (w := w) (K := K) (pl := pl) (a := a) hh (fun s h' => hs s (by simp [Jq, h'])) hg hh'
      obtain ⟨ad, len, cap, hv1, rfl, hc, hrep⟩ := jJ8 hv h0 h1 h2
      rw [qF]
      exact ⟨_, w, K', pl, .inl (jb3 hu hs' hlo hhi h0 h1 h2 hc w hv1), g1, PLe.refl _, g2, Rep.mono (KLe.refl _) (PLe.zero _) _ _ hrep⟩
     ·trivial
    ·trivial
   case bsl k base sz' len =>
    simp only [zT]
    split
    ·rename_i l h hl' hh'
     refine ResOk.pure ?_
     intro F K pl w a hF hi' hs hg hp
     obtain ⟨rfl, h0, h1, h2⟩ := hp _ (List.mem_singleton.2 rfl)
     have hv := kI (K := K) (pl := pl) hx (fun s h' => hs s (by simp [Jq, h'])) hg he
     have hlo := JL (F := F) (w := w) (K := K) (pl := pl) (a := a) hl (fun s h' => hs s (by simp [Jq, h'])) hg hl'
     have hhi := JL (F := F) (w := w) (K := K) (pl := pl) (a := a) hh (fun s h' => hs s (by simp [Jq, h'])) hg hh'
     simp only [Rep] at hv
     obtain ⟨b, o, cap, g1, g2, g3, g4⟩ := hv
     refine ⟨_, jb3 hu hs' hlo hhi h0 h1 h2 g3 w g2, ?_⟩
     simp only [Rep]
     have hlen : (h - l).toNat = h.toNat - l.toNat := by omega
     by_cases hz : cap = l.toNat
     ·exact ⟨b, o, cap - l.toNat, g1, by rw [if_pos hz, hlen], by omega, .inl (by omega)⟩
     ·refine ⟨b, o + l.toNat * s, cap - l.toNat, g1, by rw [if_neg hz, hlen]; simp [Addr.add_mid], by omega, ?_⟩
      rcases g4 with g4 | g4
      ·left; omega
      ·right; rw [g4]
    ·trivial
theorem kn0 {t e : TypeId} {sz n : Nat} (hu : P.underlying t = some (.array n e)) (hs : zl P e = some sz) {b o : Nat} {lo hi : Option Operand} {a : Act} {l h : Int} (hlo : (lo = none /\ l = 0) \/ ∃ x k, lo = some x /\ a.eval x = .int k l) (hhi : (hi = none /\ h = n) \/ ∃ x k, hi = some x /\ a.eval x = .int k h)
  (h0 : 0 <= l) (h1 : l <= h) (h2 : h <= n) (w : World) {x : Operand} (hx : a.eval x = .pointer (some ⟨b, o, none⟩)) :
  (execOp a.eval ⟨dst, .slice t x lo hi none, ty, pos, after, guard⟩).run P w = .ok (.value (.slice (some (if n = l.toNat then ⟨b, o, none⟩ else ⟨b, o + l.toNat * sz, none⟩)) (h.toNat - l.toNat) (n - l.toNat))) w := by
 have hb := Xc (P := P) (isSlice := false) (len := n) (cap := n) hlo hhi h0 h1 h2 (Nat.le_refl _) w
 have hsr := qW hs w
 simp [execOp, Instr.sliceAt, Instr.sureAddr, hx, Sem.run_bind, run_underlying hu, hb, hsr, Addr.add_mid]
theorem kR0 {t e : TypeId} {s n : Nat} {x : Operand} {lo hi : Option Operand} {x' : X} {lo' hi' : Option X} (hu : P.underlying t = some (.array n e)) (hs' : zl P e = some s) (hx : qm P t x = some x') (hl : jx1 P lo = some lo') (hh : jx1 P hi = some hi') :
  ResOk P gt ⟨dst, .slice t x lo hi none, ty, pos, after, guard⟩ (.sla n s x' lo' hi') g env bx (jl gt (.sla n s x' lo' hi') g env bx) := by
 have key : ∀ (k off : Nat) (l h : Int), (∀ (F : Fr) K pl w a, F.gt = gt -> Inv F K pl bx w -> (∀ s' ∈ Jq (.sla n s x' lo' hi'), SlotOk K pl env a s') -> qo a g -> ∃ b, pl k 0 = some (.pointer (some ⟨b, 0, none⟩)) /\ a.eval x = .pointer (some ⟨b, off, none⟩)) -> jx7 env g 0 lo' = some l -> jx7 env g n hi' = some h ->
   ResOk P gt ⟨dst, .slice t x lo hi none, ty, pos, after, guard⟩ (.sla n s x' lo' hi') g env bx (.ok [0 <= l /\ l <= h /\ h <= n] (.bsl k (off + l.toNat * s) s (h - l).toNat) bx) := by
  intro k off l h hb hl' hh'
  refine ResOk.pure ?_
  intro F K pl w a hF hi' hs hg hp
  obtain ⟨h0, h1, h2⟩ := hp _ (List.mem_singleton.2 rfl)
  obtain ⟨b, g1, g2⟩ := hb F K pl w a hF hi' hs hg
  have hlo := JL (F := F) (w := w) (K := K) (pl := pl) (a := a) hl (fun s h' => hs s (by simp [Jq, h'])) hg hl'
  have hhi := JL (F := F) (w := w) (K := K) (pl := pl) (a := a) hh (fun s h' => hs s (by simp [Jq, h'])) hg hh'
  refine ⟨_, kn0 hu hs' hlo hhi h0 h1 h2 w g2, ?_⟩
  simp only [Rep]
  have hlen : (h - l).toNat = h.toNat - l.toNat := by omega
  by_cases hz : n = l.toNat
  ·exact ⟨b, off, n - l.toNat, g1, by rw [if_pos hz, hlen], by omega, .inl (by omega)⟩
  ·exact ⟨b, off + l.toNat * s, n - l.toNat, g1, by rw [if_neg hz, hlen], by omega, .inr rfl⟩
 simp only [jl]
 cases he : jL env g x' with
 | none => simp [xW, ResOk]
 | some d0 =>
   cases d0 <;> try (simp [xW, ResOk]; done)
   case box k off =>
    simp only [xW]
    split
    ·rename_i l h hl' hh'
     refine key k off l h (fun F K pl w a hF hi' hs hg => ?_) hl' hh'
     have hv := kI (K := K) (pl := pl) hx (fun s h' => hs s (by simp [Jq, h'])) hg he
     simpa only [Rep] using hv
    ·trivial
   case boxi k off =>
    simp only [xW]
    split
    ·rename_i l h hl' hh'
     refine key k off l h (fun F K pl w a hF hi' hs hg => ?_) hl' hh'
     have hv := kI (K := K) (pl := pl) hx (fun s h' => hs s (by simp [Jq, h'])) hg he
     simpa only [Rep] using hv
    ·trivial
/-! ### Hints -/
def kz3 : M -> Bool
 | .mv .. | .bsl .. | .call .. | .callv .. | .sls .. | .prm .. | .alloc .. | .callK .. | .callC .. | .callN .. | .callR .. | .nilS .. | .nilF .. | .conv .. | .cvw .. => true
 | _ => false
theorem qh {m m' : M} (h : m' = m.bare) (hh : kz3 m' = false) : m = m' := by
 cases m <;> first | exact h.symm | (subst h; simp [M.bare, kz3] at hh)
theorem ke7 {m : M} {z : List D} (h : M.alloc z = m.bare) : ∃ z', m = .alloc z' /\ z = QE z' := by
 cases m <;> simp [M.bare] at h; exact ⟨_, rfl, h⟩
theorem kk3 {m : M} {x : X} (h : M.mv false x = m.bare) : ∃ fz, m = .mv fz x := by
 cases m <;> simp [M.bare] at h; subst h; exact ⟨_, rfl⟩
theorem kC8 {m : M} {e : TypeId} {sz : Nat} {n : Option Nat} {xs : List X} (h : M.bsl none e sz n xs = m.bare) : ∃ mode, m = .bsl mode e sz n xs := by
 cases m <;> simp [M.bare] at h; obtain ⟨rfl, rfl, rfl, rfl⟩ := h; exact ⟨_, rfl⟩
theorem kq7 {m : M} {f : Nat} {xs : List X} (h : M.call false f xs = m.bare) : (∃ eff, m = .call eff f xs) \/ (∃ l, m = .callK l f xs) \/ m = .callC f xs \/ (∃ n, m = .callN n f xs) \/ ∃ l, m = .callR l f xs := by
 cases m <;> simp [M.bare] at h
 ·obtain ⟨rfl, rfl⟩ := h; exact .inl ⟨_, rfl⟩
 ·obtain ⟨rfl, rfl⟩ := h; exact .inr (.inl ⟨_, rfl⟩)
 ·obtain ⟨rfl, rfl⟩ := h; exact .inr (.inr (.inl rfl))
 ·obtain ⟨rfl, rfl⟩ := h; exact .inr (.inr (.inr (.inl ⟨_, rfl⟩)))
 ·obtain ⟨rfl, rfl⟩ := h; exact .inr (.inr (.inr (.inr ⟨_, rfl⟩)))
theorem jE3 {m : M} {e : TypeId} {sz : Nat} (h : M.nilS e sz = m.bare) : m = .nilS e sz \/ m = .nilF e sz := by
 cases m <;> simp [M.bare] at h
 ·obtain ⟨rfl, rfl⟩ := h; exact .inl rfl
 ·obtain ⟨rfl, rfl⟩ := h; exact .inr rfl
theorem kq6 {m : M} {k : IntKind} {x : X} (h : M.conv k x = m.bare) : m = .conv k x \/ m = .cvw k x := by
 cases m <;> simp [M.bare] at h
 ·obtain ⟨rfl, rfl⟩ := h; exact .inl rfl
 ·obtain ⟨rfl, rfl⟩ := h; exact .inr rfl
theorem ke6 {m : M} {x : X} {xs : List X} (h : M.callv false x xs = m.bare) : ∃ eff, m = .callv eff x xs := by
 cases m <;> simp [M.bare] at h; obtain ⟨rfl, rfl⟩ := h; exact ⟨_, rfl⟩
theorem kC7 {m : M} {sz : Nat} {x : X} {lo hi : Option X} (h : M.sls false sz x lo hi = m.bare) : ∃ eff, m = .sls eff sz x lo hi := by
 cases m <;> simp [M.bare] at h; obtain ⟨rfl, rfl, rfl, rfl⟩ := h; exact ⟨_, rfl⟩
theorem map_some {α β : Type} {f : α -> β} {o : Option α} {b : β} (h : o.map f = some b) : ∃ a, o = some a /\ f a = b := by
 cases o with
 | none => cases h
 | some a => exact ⟨a, rfl, by simpa using h⟩
theorem YG {t : TypeId} {k : IntKind} (h : qy P t = some k) : P.underlying t = some (.int k) := by
 unfold qy at h
 split at h
 ·rename_i hh; cases h; exact hh
 ·cases h
theorem kN0 {neg : Bool} {op : BinOp} {t yt : TypeId} {x y : Operand} {m : M} (hop : op = (if neg then .neq else .eql)) (hc : je7 P neg t x y = some m.bare) :
  ResOk P gt ⟨dst, .binOp op t x y yt, ty, pos, after, guard⟩ m g env bx (jl gt m g env bx) := by
 unfold je7 at hc
 cases hx : qm P t x with
 | none => simp [hx] at hc
 | some x' =>
   cases hy : qm P t y with
   | none => simp [hx, hy] at hc
   | some y' =>
     simp only [hx, hy, Option.bind_eq_bind, Option.bind_some] at hc
     split at hc
     ·rename_i hu; obtain rfl := qh (Option.some.inj hc) rfl; exact kw6 hop (by simpa using hu) hx hy
     ·rename_i hu; obtain rfl := qh (Option.some.inj hc) rfl; exact kw6 hop (by simpa using hu) hx hy
     ·obtain ⟨ks, hk, hm⟩ := map_some hc
      obtain rfl := qh hm rfl
      exact kR9 hop hk hx hy
     ·cases hc
theorem ke3 {b : Builtin} {args : Array Operand} {ts : Array TypeId} {m : M} (hc : yn P b args.toList ts.toList = some m.bare) :
  ResOk P gt ⟨dst, .call { callee := .builtin b, args := args, argTypes := ts }, ty, pos, after, guard⟩ m g env bx (jl gt m g env bx) := by
 obtain ⟨args⟩ := args
 obtain ⟨ts⟩ := ts
 simp only at hc
 unfold yn at hc
 split at hc
 ·rename_i x t
  split at hc
  ·rename_i e hu
   obtain ⟨x', hx, hm⟩ := map_some hc
   obtain rfl := qh hm rfl
   exact kw5 (by simpa using ⟨e, hu⟩) hx
  ·rename_i hu
   obtain ⟨x', hx, hm⟩ := map_some hc
   obtain rfl := qh hm rfl
   exact kw5 (by simpa using hu) hx
  ·cases hc
 ·rename_i x y t u
  cases h1 : qy P t <;> simp [h1] at hc
  cases h2 : qy P u <;> simp [h2] at hc
  cases hx : qm P t x <;> simp [hx] at hc
  cases hy : qm P u y <;> simp [hy] at hc
  obtain rfl := qh hc rfl
  exact ok_mx hx hy
 ·rename_i x y t u
  cases h1 : qy P t <;> simp [h1] at hc
  cases h2 : qy P u <;> simp [h2] at hc
  cases hx : qm P t x <;> simp [hx] at hc
  cases hy : qm P u y <;> simp [hy] at hc
  obtain rfl := qh hc rfl
  exact ok_mn hx hy
 ·rename_i x y t u
  split at hc
  ·rename_i e hu
   split at hc
   ·rename_i htu
    subst htu
    cases hi : P.info? e <;> simp [hi] at hc
    rename_i i
    cases hz : i.zero <;> simp [hz] at hc
    rename_i z
    obtain ⟨⟨h1, h2, h3⟩, hc⟩ := hc
    cases hx : qm P t x <;> simp [hx] at hc
    cases hy : qm P t y <;> simp [hy] at hc
    obtain rfl := qh hc rfl
    exact kS9 hu hi hz h1 h2 h3 hx hy
   ·cases hc
  ·cases hc
 ·rename_i x y t u
  split at hc
  ·rename_i e hu
   split at hc
   ·rename_i htu
    subst htu
    cases hi : P.info? e <;> simp [hi] at hc
    rename_i i
    obtain ⟨h1, hc⟩ := hc
    cases hx : qm P t x <;> simp [hx] at hc
    cases hy : qm P t y <;> simp [hy] at hc
    obtain rfl := qh hc rfl
    exact kS1 hu hi h1 hx hy
   ·cases hc
  ·cases hc
 ·cases hc
theorem ky2 {op : Op} {m : M} (hc : je6 P ty op = some m.bare) : ResOk P gt ⟨dst, op, ty, pos, after, guard⟩ m g env bx (jl gt m g env bx) := by
 unfold je6 at hc
 split at hc
 ·split at hc
  ·obtain ⟨n, _, hm⟩ := map_some hc; rcases jE3 hm with rfl | rfl; exact ki0 _ (.inl rfl); exact ki1 _ (.inl rfl)
  ·cases hc
 ·split at hc
  ·obtain ⟨n, _, hm⟩ := map_some hc; rcases jE3 hm with rfl | rfl; exact ki0 _ (.inr rfl); exact ki1 _ (.inr rfl)
  ·cases hc
 ·obtain ⟨x', hx, hm⟩ := map_some hc; obtain ⟨fz, rfl⟩ := kk3 hm; exact kM3 hx _ (fun ρ w => by simp [execOp])
 ·obtain ⟨x', hx, hm⟩ := map_some hc; obtain ⟨fz, rfl⟩ := kk3 hm; exact kM3 hx _ (fun ρ w => by simp [execOp])
 ·split at hc
  ·rename_i c' a' b' h1 h2 h3; obtain rfl := qh (Option.some.inj hc) rfl; exact kH8 h1 h2 h3
  ·cases hc
 ·obtain ⟨z, hz, hm⟩ := map_some hc; obtain ⟨z', rfl, rfl⟩ := ke7 hm; exact kx3 hz
 ·split at hc
  ·rename_i n x' h1 h2; obtain rfl := qh (Option.some.inj hc) rfl; exact kS6 h1 h2
  ·cases hc
 ·split at hc
  ·rename_i z fs hz hu
   split at hc
   ·rename_i hall
    obtain ⟨ps, hp, hm⟩ := map_some hc
    obtain rfl := qh hm rfl
    refine kx2 hz (.inl ⟨fs, hu, hp, fun i f hf => List.all_eq_true.1 hall f ?_⟩)
    exact List.mem_iff_getElem?.2 ⟨i, by simpa using hf⟩
   ·cases hc
  ·rename_i z n e hz hu
   split at hc
   ·rename_i s hs
    obtain ⟨ps, hp, hm⟩ := map_some hc
    obtain rfl := qh hm rfl
    exact kx2 hz (.inr ⟨n, e, s, hu, hs, hp⟩)
   ·cases hc
  ·cases hc
 ·split at hc
  ·rename_i e hu
   split at hc
   ·rename_i s a xs h1 h2 h3
    split at hc
    ·rename_i hh; obtain ⟨mode, rfl⟩ := kC8 (Option.some.inj hc); exact kS5 hu h1 h2 h3 hh.1 hh.2.1 hh.2.2.1 hh.2.2.2
    ·cases hc
   ·cases hc
  ·cases hc
 ·split at hc
  ·rename_i n x' h1 h2; obtain rfl := qh (Option.some.inj hc) rfl; exact ok_ld h1 h2
  ·cases hc
 ·split at hc
  ·rename_i n a' x' h1 h2 h3; obtain rfl := qh (Option.some.inj hc) rfl; exact ok_st h1 h2 h3
  ·cases hc
 ·split at hc
  ·rename_i fs x' hu hx
   split at hc
   ·rename_i f hf
    split at hc
    ·rename_i n hn; obtain rfl := qh (Option.some.inj hc) rfl; exact kR7 hu hf hn hx
    ·cases hc
   ·cases hc
  ·cases hc
 ·split at hc
  ·rename_i e x' i' hu hx hi
   split at hc
   ·rename_i s hs; obtain rfl := qh (Option.some.inj hc) rfl; exact kR5 hu hs hx hi
   ·cases hc
  ·rename_i n e x' i' hu hx hi
   split at hc
   ·rename_i s hs; obtain rfl := qh (Option.some.inj hc) rfl; exact kR6 hu hs hx hi
   ·cases hc
  ·cases hc
 ·split at hc
  ·rename_i fs x' hu hx
   split at hc
   ·rename_i f hf
    obtain ⟨n, hn, hm⟩ := map_some hc
    obtain rfl := qh hm rfl
    exact kH9 hu hf hn hx
   ·cases hc
  ·cases hc
 ·split at hc
  ·rename_i n e x' i' hu hx hi
   split at hc
   ·rename_i s a hs ha; obtain rfl := qh (Option.some.inj hc) rfl; exact kR4 hu hs ha hx hi
   ·cases hc
  ·rename_i x' i' hu hx hi; obtain rfl := qh (Option.some.inj hc) rfl; exact kH7 hu hx hi
  ·cases hc
 ·split at hc
  ·rename_i k hk
   split at hc
   ·rename_i x' y' hx hy; obtain rfl := qh (Option.some.inj hc) rfl; exact kS7 hk hx hy
   ·cases hc
  ·split at hc
   ·exact kN0 (neg := false) rfl hc
   ·exact kN0 (neg := true) rfl hc
   ·split at hc
    ·rename_i x' y' hu hx hy; obtain rfl := qh (Option.some.inj hc) rfl; exact kS4 hu hx hy
    ·cases hc
   ·cases hc
 ·obtain ⟨x', hx, hm⟩ := map_some hc; obtain rfl := qh hm rfl; exact kR1 hx
 ·split at hc
  ·rename_i k x' hk hx; obtain rfl := qh (Option.some.inj hc) rfl; exact kR2 hx
  ·cases hc
 ·split at hc
  ·rename_i k' k x' h1 h2 hx; rcases kq6 (Option.some.inj hc) with rfl | rfl; exact kI0 h1 h2 hx; exact kS0 h1 h2 hx
  ·rename_i x' hx _
   split at hc
   ·rename_i e hs hd
    split at hc
    ·rename_i he; obtain rfl := qh (Option.some.inj hc) rfl; exact kS8 hs (YG he) hd hx
    ·cases hc
   ·cases hc
  ·cases hc
 ·obtain ⟨x', hx, hm⟩ := map_some hc; obtain rfl := qh hm rfl; exact kS3 hx
 ·split at hc
  ·rename_i h0
   obtain ⟨xs, hx, hm⟩ := map_some hc
   obtain rfl := qh hm rfl
   have := Array.eq_empty_of_size_eq_zero h0
   subst this
   exact kS2 hx
  ·cases hc
 ·split at hc
  ·rename_i e l' c' hu hl hcc
   split at hc
   ·rename_i i z n hi hz hn
    split at hc
    ·rename_i hh; obtain rfl := qh (Option.some.inj hc) rfl; exact kR3 hu hi hz hn hh.1 hh.2.1 hh.2.2 hl hcc
    ·cases hc
   ·cases hc
  ·cases hc
 ·split at hc
  ·rename_i x' lo' hi' hu hx hl hh; obtain rfl := qh (Option.some.inj hc) rfl; exact kQ8 hu hx hl hh
  ·rename_i e x' lo' hi' hu hx hl hh
   split at hc
   ·rename_i s hs; obtain ⟨eff, rfl⟩ := kC7 (Option.some.inj hc); exact kQ9 hu hs hx hl hh
   ·cases hc
  ·rename_i n e x' lo' hi' hu hx hl hh
   split at hc
   ·rename_i s hs; obtain rfl := qh (Option.some.inj hc) rfl; exact kR0 hu hs hx hl hh
   ·cases hc
  ·cases hc
 ·rename_i c
  obtain ⟨callee, args, ts⟩ := c
  simp only at hc
  split at hc
  ·exact ke3 hc
  ·obtain ⟨xs, hx, hm⟩ := map_some hc
   rcases kq7 hm with ⟨eff, rfl⟩ | ⟨l, rfl⟩ | rfl | ⟨n, rfl⟩ | ⟨l, rfl⟩
   ·exact kI1 hx
   ·exact kx0 hx
   ·exact kx1 hx
   ·exact kw9 hx
   ·exact kw8 hx
  ·obtain ⟨xs, hx, hm⟩ := map_some hc
   obtain ⟨eff, rfl⟩ := ke6 hm
   exact kw7 hx
  ·cases hc
 ·obtain ⟨x', hx, hm⟩ := map_some hc; obtain rfl := qh hm rfl; exact kR8 hx
 ·cases hc
theorem jX1 {m : M} {q : Pr} {xs : List X} (h : M.prm false false q xs = m.bare) : ∃ nd eff, m = .prm nd eff q xs := by
 cases m <;> simp [M.bare] at h; obtain ⟨rfl, rfl⟩ := h; exact ⟨_, _, rfl⟩
theorem jT0 : ∀ {xs : List Operand} {l : List X}, jT1 P xs = some l -> zF P xs (List.replicate xs.length 0) = some l
 | [], l, h => by simp [jT1] at h; subst h; rfl
 | x :: xs, l, h => by
   simp only [jT1] at h
   split at h
   ·rename_i a l' h1 h2
    cases h
    simp only [List.length_cons, List.replicate_succ, zF, h1, jT0 h2]
   ·cases h
theorem jq5 {op : Op} {m : M} (h : Vc P op = some m) : ∃ q xs ts xs', m = .prm false false q xs' /\ q.op xs = some op /\ zF P xs ts = some xs' := by
 unfold Vc at h
 split at h
 ·rename_i s xs ts
  split at h
  ·rename_i xs' h1; cases h
   refine ⟨_, .tmp s :: xs, 0 :: List.replicate xs.length 0, _, rfl, rfl, ?_⟩
   simp only [zF, jT0 h1, qm]
  ·cases h
 ·rename_i t x a b
  split at h
  ·rename_i x' a' b' h1 h2 h3; cases h; exact ⟨_, [x, a, b], [0, 0, 0], _, rfl, rfl, by simp [zF, h1, h2, h3]⟩
  ·cases h
 ·rename_i t x a
  split at h
  ·rename_i x' a' h1 h2; cases h; exact ⟨_, [x, a], [0, 0], _, rfl, rfl, by simp [zF, h1, h2]⟩
  ·cases h
 ·rename_i t x b
  split at h
  ·rename_i x' b' h1 h2; cases h; exact ⟨_, [x, b], [0, 0], _, rfl, rfl, by simp [zF, h1, h2]⟩
  ·cases h
 ·rename_i t x b c
  split at h
  ·rename_i x' b' c' h1 h2 h3; cases h; exact ⟨_, [x, b, c], [0, 0, 0], _, rfl, rfl, by simp [zF, h1, h2, h3]⟩
  ·cases h
 ·rename_i t x i
  split at h
  ·rename_i x' i' h1 h2; cases h; exact ⟨_, [x, i], [0, 0], _, rfl, rfl, by simp [zF, h1, h2]⟩
  ·cases h
 ·rename_i t x i u
  split at h
  ·rename_i x' i' h1 h2; cases h; exact ⟨_, [x, i], [t, u], _, rfl, rfl, by simp [zF, h1, h2]⟩
  ·cases h
 ·rename_i t x i u
  split at h
  ·rename_i x' i' h1 h2; cases h; exact ⟨_, [x, i], [t, u], _, rfl, rfl, by simp [zF, h1, h2]⟩
  ·cases h
 ·rename_i t x i ok
  split at h
  ·rename_i x' i' h1 h2; cases h; exact ⟨_, [x, i], [0, 0], _, rfl, rfl, by simp [zF, h1, h2]⟩
  ·cases h
 ·rename_i t m k v
  split at h
  ·rename_i m' k' v' h1 h2 h3; cases h; exact ⟨_, [m, k, v], [0, 0, 0], _, rfl, rfl, by simp [zF, h1, h2, h3]⟩
  ·cases h
 ·cases h; exact ⟨_, [], [], _, rfl, rfl, rfl⟩
 ·rename_i t x
  split at h
  ·rename_i x' h1; cases h; exact ⟨_, [x], [0], _, rfl, rfl, by simp [zF, h1]⟩
  ·cases h
 ·rename_i t x
  split at h
  ·rename_i x' h1; cases h; exact ⟨_, [x], [0], _, rfl, rfl, by simp [zF, h1]⟩
  ·cases h
 ·rename_i x b
  split at h
  ·rename_i x' h1; cases h; exact ⟨_, [x], [0], _, rfl, rfl, by simp [zF, h1]⟩
  ·cases h
 ·rename_i x
  split at h
  ·rename_i x' h1; cases h; exact ⟨_, [x], [0], _, rfl, rfl, by simp [zF, h1]⟩
  ·cases h
 ·rename_i x t
  split at h
  ·rename_i x' h1; cases h; exact ⟨_, [x], [0], _, rfl, rfl, by simp [zF, h1]⟩
  ·cases h
 ·rename_i x k t u
  split at h
  ·rename_i x' k' h1 h2; cases h; exact ⟨_, [x, k], [0, 0], _, rfl, rfl, by simp [zF, h1, h2]⟩
  ·cases h
 ·rename_i x t
  split at h
  ·rename_i x' h1; cases h; exact ⟨_, [x], [0], _, rfl, rfl, by simp [zF, h1]⟩
  ·cases h
 ·rename_i x t
  split at h
  ·rename_i x' h1; cases h; exact ⟨_, [x], [0], _, rfl, rfl, by simp [zF, h1]⟩
  ·cases h
 ·cases h; exact ⟨_, [], [], _, rfl, rfl, rfl⟩
 ·rename_i t i x
  split at h
  ·rename_i x' h1; cases h; exact ⟨_, [x], [0], _, rfl, rfl, by simp [zF, h1]⟩
  ·cases h
 ·rename_i t m k v
  split at h
  ·rename_i m' k' v' h1 h2 h3; cases h; exact ⟨_, [m, k, v], [0, 0, 0], _, rfl, rfl, by simp [zF, h1, h2, h3]⟩
  ·cases h
 ·rename_i x y t u
  split at h
  ·rename_i x' y' h1 h2; cases h; exact ⟨_, [x, y], [0, 0], _, rfl, rfl, by simp [zF, h1, h2]⟩
  ·cases h
 ·rename_i t x u
  split at h
  ·rename_i x' h1; cases h; exact ⟨_, [x], [0], _, rfl, rfl, by simp [zF, h1]⟩
  ·cases h
 ·rename_i t x u
  split at h
  ·rename_i x' h1; cases h; exact ⟨_, [x], [0], _, rfl, rfl, by simp [zF, h1]⟩
  ·cases h
 ·rename_i t x u
  split at h
  ·rename_i htu; subst htu
   split at h
   ·rename_i x' h1; cases h; exact ⟨_, [x], [0], _, rfl, rfl, by simp [zF, h1]⟩
   ·cases h
  ·cases h
 ·rename_i t x u
  split at h
  ·rename_i htu; subst htu
   split at h
   ·rename_i x' h1; cases h; exact ⟨_, [x], [0], _, rfl, rfl, by simp [zF, h1]⟩
   ·cases h
  ·cases h
 ·cases h
theorem kw4 {op : Op} {nd eff : Bool} {q : Pr} {xs : List Operand} {ts : List TypeId} {xs' : List X} (hq : q.op xs = some op) (hx : zF P xs ts = some xs') :
  ResOk P gt ⟨dst, op, ty, pos, after, guard⟩ (.prm nd eff q xs') g env bx (jl gt (.prm nd eff q xs') g env bx) := by
 simp only [jl]
 split
 ·rename_i ds h; intro F K pl w a hF hi hs hg hp; exact ⟨xs, hq, yu hg hx hs h⟩
 ·rename_i ds h
  split
  ·intro F K pl w a hF hi hs hg hp; exact ⟨xs, hq, yu hg hx hs h⟩
  ·trivial
 ·rename_i ds h; intro F K pl w a hF hi hs hg hp; exact ⟨xs, hq, yu hg hx hs h⟩
 ·trivial
theorem kI8 {op : Op} {m : M} (hc : jW4 P ty op = some m.bare) : ResOk P gt ⟨dst, op, ty, pos, after, guard⟩ m g env bx (jl gt m g env bx) := by
 unfold jW4 at hc
 split at hc
 ·rename_i m' h1; cases hc; exact ky2 h1
 ·obtain ⟨q, xs, ts, xs', h1, h2, h3⟩ := jq5 hc
  obtain ⟨nd, eff, rfl⟩ := jX1 h1.symm
  exact kw4 h2 h3
theorem jT8 {op : Op} {m : M} (hc : ju8 P ty op m = some m.bare) : ResOk P gt ⟨dst, op, ty, pos, after, guard⟩ m g env bx (jl gt m g env bx) := by
 unfold ju8 at hc
 split at hc
 ·obtain ⟨q, xs, ts, xs', h1, h2, h3⟩ := jq5 hc
  obtain ⟨nd, eff, hh⟩ := jX1 h1.symm
  rw [hh]
  exact kw4 h2 h3
 ·exact kI8 hc
end
end Go.AM
