/- One operation, kind by kind: what is built, reckoned, called. -/
import Derived.Test.YtnjmjiajbgdnlaaA9
import Derived.Laws.OwnMore
set_option linter.all false
namespace Go.AM
open Go Go.RowKit

section
variable {P : Program} {gt : Nat → Option (List D)} {g : G} {env : Env} {bx : List Ent} {dst : Option Tmp} {ty : TypeId} {pos : String} {after : Array Edge} {guard : Option (Nat × Bool)}

/-- 'fill', part by part. -/
theorem fill_parts {K : Kn} {pl : Pl} {a : Act} {fs : Nat → Option (Nat × TypeId)} {place : Nat → Option (Nat × Nat)} (hpl : ∀ i off t n, fs i = some (off, t) → szOf P t = some n → place i = some (off, n)) (hg : holds a g) :
    ∀ (parts : List (Nat × Operand)) (parts' : List (Nat × Option Nat × X)) (z l : List D) (zs : Array Value) (ds : List D), compParts P fs parts = some parts' → (∀ s ∈ xsls (thirds parts'), SlotOk K pl env a s) →
      evL env g (thirds parts') = some ds → RepL K pl z zs.toList → (∀ c ∈ zs.toList, c.oneCell' = true) → fillD z parts' ds = some l →
      ∃ r, Instr.fill place zs (parts.map fun p => (p.1, a.eval p.2)) = some r ∧ RepL K pl l r.toList ∧ ∀ c ∈ r.toList, c.oneCell' = true
  | [], parts', z, l, zs, ds, hc, hs, he, hz, h1, hf => by
    simp [compParts] at hc; subst hc
    simp [thirds, evL] at he; subst he
    simp [fillD] at hf; subst hf
    exact ⟨zs, rfl, hz, h1⟩
  | (i, x) :: parts, parts', z, l, zs, ds, hc, hs, he, hz, h1, hf => by
    simp only [compParts] at hc
    split at hc
    · rename_i off t l0 hfs hcp
      split at hc
      · rename_i n x' hn hx
        cases hc
        simp only [thirds, evL] at he
        split at he
        · rename_i d ds' hd hds
          cases he
          simp only [fillD] at hf
          split at hf
          · rename_i c hcd
            split at hf
            · rename_i z' hz'
              have h2 := ev_ok (K := K) (pl := pl) hx (fun s h' => hs s (by simp [xsls, thirds] at h' ⊢; exact .inl h')) hg hd
              obtain ⟨h5, h6, h7, h8⟩ := h2.cells hcd
              have hlen := h5.length
              have hsz : (a.eval x).cells.size = n.getD 1 := by
                cases n with
                | none => rw [(h8 rfl).1]; rfl
                | some m => have := (h7 m rfl).1; simp at hlen ⊢; omega
              have hp := hpl i off t _ hfs (aggN_size hn)
              have hs' : ∀ s ∈ xsls (thirds l0), SlotOk K pl env a s := fun s h' => hs s (by simp only [xsls, thirds, List.flatMap_cons, List.mem_append] at h' ⊢; exact .inr h')
              rcases hz.splice off h5 hz' with ⟨h9, h10⟩ | ⟨h9, rfl⟩
              · obtain ⟨zs', h11, h12⟩ := fill_step (place := place) (cells := zs) (i := i) (v := a.eval x) (rest := parts.map fun p => (p.1, a.eval p.2)) hp hsz (by rw [← hsz]; simpa using h10)
                obtain ⟨r, h13, h14, h15⟩ := fill_parts hpl hg parts l0 z' l zs' ds' hcp hs' hds (by rw [h12]; exact h9) (fun u hu => by
                  rw [h12, splice_eq _ _ _ (by simpa using h10)] at hu
                  simp only [List.mem_append] at hu
                  rcases hu with (hu | hu) | hu
                  · exact h1 u (List.mem_of_mem_take hu)
                  · exact h6 u hu
                  · exact h1 u (List.mem_of_mem_drop hu)) hf
                exact ⟨r, by simp only [List.map_cons]; rw [h11]; exact h13, h14, h15⟩
              · exfalso
                rw [h9] at hlen
                cases n with
                | none => rw [(h8 rfl).1] at h9; simp at h9
                | some m =>
                  have h20 := aggN_pos hn
                  have h21 := (h7 m rfl).1
                  simp at hlen; omega
            · cases hf
          · cases hf
        · cases he
      · cases hc
    · cases hc

theorem ok_bin {t yt : TypeId} {op : BinOp} {k : IntKind} {x y : Operand} {x' y' : X} (hk : intKind P t = some k) (hx : opX P t x = some x') (hy : opX P yt y = some y') :
    ResOk P gt ⟨dst, .binOp op t x y yt, ty, pos, after, guard⟩ (.bin op k x' y') g env bx (stepF gt (.bin op k x' y') g env bx) := by
  simp only [stepF]
  split
  · rename_i k1 n1 k2 n2 he hf
    have key : (k2 = k ∨ isShr op = true) → k = k1 → ResOk P gt ⟨dst, .binOp op t x y yt, ty, pos, after, guard⟩ (.bin op k x' y') g env bx (binI op k n1 n2 bx) := by
      intro hop hk1
      subst hk1
      cases hr : binI op k n1 n2 bx with
      | bad => trivial
      | ok p d bx' =>
        intro F K pl w a hF hi hs hg hp
        have h1 := ev_ok (K := K) (pl := pl) hx (fun s hs' => hs s (xslL hs')) hg he
        have h2 := ev_ok (K := K) (pl := pl) hy (fun s hs' => hs s (xslR hs')) hg hf
        simp only [Rep] at h1 h2
        obtain ⟨hbx, v, h3, h4⟩ := binI_ok (P := P) (bx := bx) hop hr hp K pl t w
        rw [hbx]
        refine ⟨v, w, K, pl, .inl ?_, KLe.refl _, PLe.refl _, hi, h4⟩
        have hq : (eqGuard op t x y (.int k n1) (.int k2 n2)).run P w = .ok () w := by
          unfold eqGuard
          split <;> simp
        simp [execOp, h1, h2, Sem.run_bind, hq, h3]
      | call => cases op <;> simp [binI] at hr
      | row => cases op <;> simp [binI] at hr
      | arr => cases op <;> simp [binI] at hr
      | ask => cases op <;> simp [binI] at hr
      | put => cases op <;> simp [binI] at hr
    cases h1 : kEq k k1 with
    | false => simp [ResOk]
    | true =>
      cases h2 : kEq k k2 with
      | true => exact key (.inl (kEq_iff.1 h2).symm) (kEq_iff.1 h1)
      | false =>
        cases h3 : isShr op with
        | true => exact key (.inr h3) (kEq_iff.1 h1)
        | false => simp [ResOk]
  · trivial

theorem eqGuard_plain {op : BinOp} {t : TypeId} {x y : Operand} {u v : Value} (h : ∀ cs, u ≠ .agg cs) (h' : u ≠ .nilIface) (w : World) : (eqGuard op t x y u v).run P w = .ok () w := by
  cases u <;> first
    | exact absurd rfl (h _)
    | exact absurd rfl h'
    | (cases op <;> simp [eqGuard])

theorem beq_str (m n : List UInt8) : (m == n) = decide (m = n) := by
  by_cases h : m = n <;> simp [h]

theorem run_equal_bool {t : TypeId} (hu : P.underlying t = some .bool) (m n : Bool) (w : World) : (Op.equal t (.bool m) (.bool n)).run P w = .ok (m == n) w := by
  show (Op.equalIn (9999 + 1) t _ _).run P w = _
  rw [Op.equalIn]
  simp [Sem.run_bind, run_underlying hu]

theorem ok_eqb {neg str : Bool} {op : BinOp} {t yt : TypeId} {x y : Operand} {x' y' : X} (hop : op = (if neg then .neq else .eql)) (hu : P.underlying t = some (if str then .string else .bool)) (hx : opX P t x = some x') (hy : opX P t y = some y') :
    ResOk P gt ⟨dst, .binOp op t x y yt, ty, pos, after, guard⟩ (.eqb neg str x' y') g env bx (stepF gt (.eqb neg str x' y') g env bx) := by
  simp only [stepF]
  split
  · rename_i m n hd he
    refine ResOk.pure ?_
    intro F K pl w a hF hi hs hg hp
    have h1 := ev_ok (K := K) (pl := pl) hx (fun s hs' => hs s (xslL hs')) hg hd
    have h2 := ev_ok (K := K) (pl := pl) hy (fun s hs' => hs s (xslR hs')) hg he
    refine ⟨.bool (negB neg (decide (m = n))), ?_, by simp only [Rep]⟩
    simp only [Rep] at h1 h2
    have hq := eqGuard_plain (P := P) (op := op) (t := t) (x := x) (y := y) (u := .string ⟨m.toArray⟩) (v := .string ⟨n.toArray⟩) nofun nofun w
    have hb := beq_str m n
    subst hop
    cases neg <;> simp at hq <;> simp [execOp, h1, h2, Sem.run_bind, hq, binOp, Op.stringOp, negB, hb]
  · rename_i m n hd he
    refine ResOk.pure ?_
    intro F K pl w a hF hi hs hg hp
    have h1 := ev_ok (K := K) (pl := pl) hx (fun s hs' => hs s (xslL hs')) hg hd
    have h2 := ev_ok (K := K) (pl := pl) hy (fun s hs' => hs s (xslR hs')) hg he
    refine ⟨.bool (negB neg (m == n)), ?_, by simp only [Rep]⟩
    simp only [Rep] at h1 h2
    simp at hu
    have hq := eqGuard_plain (P := P) (op := op) (t := t) (x := x) (y := y) (u := .bool m) (v := .bool n) nofun nofun w
    subst hop
    have he := run_equal_bool hu m n w
    cases neg <;> simp at hq <;> simp [execOp, h1, h2, Sem.run_bind, hq, binOp, he, negB]
  · trivial

/-! ### Structs, compared -/
def ckDesc : CK → TypeDesc
  | .i k => .int k
  | .b => .bool
  | .s => .string

theorem run_eq_one {t : TypeId} {c : CK} {d e : D} {u v : Value} {K : Kn} {pl : Pl} {b : Bool} (hd : Rep K pl d u) (he : Rep K pl e v) (hb : eqC c d e = some b)
    (hu : P.underlying t = some (ckDesc c)) (n : Nat) (w : World) : (Op.equalIn (n + 1) t u v).run P w = .ok b w := by
  unfold eqC at hb
  split at hb
  · rename_i k k1 x k2 y
    cases hk : bA (kEq k k1) (kEq k k2) with
    | false => simp [hk] at hb
    | true =>
      simp [hk] at hb; subst hb
      obtain ⟨h1, h2⟩ := bA_iff.1 hk
      have h1 := kEq_iff.1 h1
      have h2 := kEq_iff.1 h2
      subst h1; subst h2
      simp only [Rep] at hd he; subst hd; subst he
      rw [Op.equalIn]
      simp [Sem.run_bind, run_underlying hu, ckDesc]; rfl
  · simp only [Rep] at hd he; subst hd; subst he
    simp at hb; subst hb
    rw [Op.equalIn]
    simp [Sem.run_bind, run_underlying hu, ckDesc]
  · simp only [Rep] at hd he; subst hd; subst he
    simp at hb; subst hb
    rw [Op.equalIn]
    simp [Sem.run_bind, run_underlying hu, ckDesc]
    show ((⟨_⟩ : ByteArray) == ⟨_⟩) = _
    rw [beq_toListBytes]; simp
  · cases hb

theorem aggN_of_kind {t : TypeId} {d : TypeDesc} (hu : P.underlying t = some d) (hd : d = .bool ∨ d = .string ∨ ∃ k, d = .int k) (hs : szOf P t = some 1) : aggN P t = some none := by
  unfold szOf at hs
  cases hi : P.info? t with
  | none => simp [hi] at hs
  | some i =>
    simp [hi] at hs
    rcases hd with rfl | rfl | ⟨k, rfl⟩ <;> simp [aggN, hu, hi, hs]

theorem eq_fields {K : Kn} {pl : Pl} {d : Nat} {w : World} {xs ys : List Value} : ∀ (fs : List Field) (ks : List CK) (j : Nat) (l r : List D) (e0 e : Bool), cellKinds P j fs = some ks →
    RepL K pl l (xs.drop j) → RepL K pl r (ys.drop j) → eqAux e0 ks l r = some e → ∃ e', e = (e0 && e') ∧ (Op.eqFields (d + 1) xs.toArray ys.toArray fs).run P w = .ok e' w
  | [], ks, j, l, r, e0, e, hc, hl, hr, he => by
    simp [cellKinds] at hc; subst hc
    cases l <;> cases r <;> simp [eqAux] at he
    exact ⟨true, by simp [he], by simp [Op.eqFields]⟩
  | f :: fs, ks, j, l, r, e0, e, hc, hl, hr, he => by
    simp only [cellKinds] at hc
    split at hc
    · rename_i hcond
      obtain ⟨h1, h2, h3⟩ := hcond
      have key : ∀ (c : CK) (ks' : List CK), cellKinds P (j + 1) fs = some ks' → P.underlying f.type = some (ckDesc c) → ks = c :: ks' →
          ∃ e', e = (e0 && e') ∧ (Op.eqFields (d + 1) xs.toArray ys.toArray (f :: fs)).run P w = .ok e' w := by
        intro c ks' hks hu hk
        subst hk
        have hag : aggN P f.type = some none := aggN_of_kind hu (by cases c <;> simp [ckDesc]) h3
        cases l with
        | nil => simp [eqAux] at he
        | cons x l =>
          cases r with
          | nil => simp [eqAux] at he
          | cons y r =>
            simp only [eqAux] at he
            split at he
            · rename_i b hb
              split at he
              · rename_i c' hc'
                cases he
                simp only [RepL] at hl hr
                obtain ⟨u, us, hu', hu1, hu2⟩ := hl
                obtain ⟨v, vs, hv, hv1, hv2⟩ := hr
                have hxs : xs[j]? = some u := by have := congrArg (·[0]?) hu'; simpa using this
                have hys : ys[j]? = some v := by have := congrArg (·[0]?) hv; simpa using this
                have hus : us = xs.drop (j + 1) := by have := congrArg (List.drop 1) hu'; simpa using this.symm
                have hvs : vs = ys.drop (j + 1) := by have := congrArg (List.drop 1) hv; simpa using this.symm
                have hpx : (part f.type xs.toArray f.offset).run P w = .ok u w := by simp [part, Sem.run_bind, run_isAgg' hag, h1, hxs]
                have hpy : (part f.type ys.toArray f.offset).run P w = .ok v w := by simp [part, Sem.run_bind, run_isAgg' hag, h1, hys]
                have heq := run_eq_one hu1 hv1 hb hu d w
                obtain ⟨e', h5, h6⟩ := eq_fields (K := K) (pl := pl) (d := d) (w := w) fs ks' (j + 1) l r b c' hks (by rw [← hus]; exact hu2) (by rw [← hvs]; exact hv2) hc'
                refine ⟨b && e', by rw [h5], ?_⟩
                simp only [Op.eqFields, h2, ne_eq, not_false_eq_true, if_true, Sem.run_bind, hpx, hpy, heq, Result.andThen_ok]
                cases b <;> simp [h6]
              · cases he
            · cases he
      split at hc <;> first | cases hc; done | skip
      · rename_i l' hu hl'; cases hc; exact key .b l' hl' hu rfl
      · rename_i l' hu hl'; cases hc; exact key .s l' hl' hu rfl
      · rename_i k l' hu hl'; cases hc; exact key (.i k) l' hl' hu rfl
    · cases hc

theorem ok_eqS {neg : Bool} {ks : List CK} {op : BinOp} {t yt : TypeId} {x y : Operand} {x' y' : X} (hop : op = (if neg then .neq else .eql)) (hk : plainCells P t = some ks) (hx : opX P t x = some x') (hy : opX P t y = some y') :
    ResOk P gt ⟨dst, .binOp op t x y yt, ty, pos, after, guard⟩ (.eqS neg ks x' y') g env bx (stepF gt (.eqS neg ks x' y') g env bx) := by
  simp only [stepF]
  split
  · rename_i l r hd he
    split
    · rename_i e hee
      refine ResOk.pure ?_
      intro F K pl w a hF hi hs hg hp
      have h1 := ev_ok (K := K) (pl := pl) hx (fun s hs' => hs s (xslL hs')) hg hd
      have h2 := ev_ok (K := K) (pl := pl) hy (fun s hs' => hs s (xslR hs')) hg he
      simp only [Rep] at h1 h2
      obtain ⟨xs, hxv, hxl, _⟩ := h1
      obtain ⟨ys, hyv, hyl, _⟩ := h2
      unfold plainCells at hk
      split at hk
      · rename_i fs hu
        split at hk
        · rename_i hh
          have hF : P.fieldsOf t = fs := by simp [Program.fieldsOf, hu]
          have hequal : (Op.equal t (.agg xs.toArray) (.agg ys.toArray)).run P w = .ok e w := by
            show (Op.equalIn (9999 + 1) t _ _).run P w = _
            rw [run_equalIn_struct w 9999 t _ _ (by rw [hF]; exact hu) hh.2, hF]
            cases hfs : fs.toList with
            | nil =>
              rw [hfs] at hk; simp [cellKinds] at hk; subst hk
              cases l <;> cases r <;> simp [eqCs] at hee
              simp [Op.eqFields, hee]
            | cons f fl =>
              rw [hfs] at hk
              cases ks with
              | nil =>
                simp only [cellKinds] at hk
                split at hk
                · split at hk <;> simp at hk
                · cases hk
              | cons c ks =>
                cases l with
                | nil => simp [eqCs] at hee
                | cons x l => cases r with
                  | nil => simp [eqCs] at hee
                  | cons y r =>
                    have hee' : eqAux true (c :: ks) (x :: l) (y :: r) = some e := by
                      simp only [eqCs] at hee
                      simp only [eqAux]
                      split at hee
                      · rename_i b hb
                        rw [hee]; simp
                      · cases hee
                    obtain ⟨e', h5, h6⟩ := eq_fields (K := K) (pl := pl) (d := 9998) (w := w) (f :: fl) (c :: ks) 0 (x :: l) (y :: r) true e hk (by simpa using hxl) (by simpa using hyl) hee'
                    rw [h6, h5]; simp
          have hq : ∀ op, (eqGuard op t x y (.agg xs.toArray) (.agg ys.toArray)).run P w = .ok () w := fun op => by
            cases op <;> simp [eqGuard, Sem.run_bind, run_program, hh.1]
          refine ⟨.bool (negB neg e), ?_, by simp only [Rep]⟩
          subst hop
          cases neg <;> simp [execOp, hxv, hyv, Sem.run_bind, hq, binOp, hequal, negB]
        · cases hk
      · cases hk
    · trivial
  · trivial

theorem ok_cat {t yt : TypeId} {x y : Operand} {x' y' : X} (hu : P.underlying t = some .string) (hx : opX P t x = some x') (hy : opX P t y = some y') :
    ResOk P gt ⟨dst, .binOp .add t x y yt, ty, pos, after, guard⟩ (.cat x' y') g env bx (stepF gt (.cat x' y') g env bx) := by
  simp only [stepF]
  split
  · rename_i m n hd he
    refine ResOk.pure ?_
    intro F K pl w a hF hi hs hg hp
    have h1 := ev_ok (K := K) (pl := pl) hx (fun s hs' => hs s (xslL hs')) hg hd
    have h2 := ev_ok (K := K) (pl := pl) hy (fun s hs' => hs s (xslR hs')) hg he
    have h3 : m.length + n.length < 9223372036854775808 := hp _ (List.mem_singleton.2 rfl)
    simp only [Rep] at h1 h2
    have hs1 : (⟨m.toArray⟩ : ByteArray).size = m.length := by simp [ByteArray.size]
    have hs2 : (⟨n.toArray⟩ : ByteArray).size = n.length := by simp [ByteArray.size]
    have happ : (⟨m.toArray⟩ : ByteArray) ++ ⟨n.toArray⟩ = ⟨(m ++ n).toArray⟩ := by
      apply ByteArray.ext; simp
    refine ⟨.string ⟨(m ++ n).toArray⟩, ?_, by simp only [Rep]⟩
    have hnot : ¬ (9223372036854775807 < ((m.length : Int) + (n.length : Int))) := by omega
    simp [execOp, h1, h2, Sem.run_bind, eqGuard, binOp, Op.stringOp, hs1, hs2, happ, IntKind.max, IntKind.signed, IntKind.bits, hnot]
  · trivial
end
end Go.AM
