/- Operations told from outside: an insert, an append of a string, an interface against nil, allocs and builds with own nil rows. -/
import Derived.Test.YtlmhekbbagpnjaaDoorA25
import Derived.Lib.AppendStr
set_option linter.all false
namespace Go.AM
open Go Go.RowKit

section
variable {P : Program} {gt : Nat → Option (List D)} {t u k e : TypeId} {ik : IntKind}

/-- An insert is an update. -/
theorem pr_ins {ds : List D} {bx bx' : List Ent} {d : D} (h : PrM P gt (.upd t) ds bx d bx') : PrM P gt (.ins t) ds bx d bx' := by
  intro F K pl w o ρ xs hF hρ hI hq hr
  have hop : ∃ m k v, xs = [m, k, v] ∧ o.op = .insert t m k v := by
    match xs, hq with
    | [m, k, v], h => simp [Pr.op] at h; exact ⟨m, k, v, rfl, h.symm⟩
    | [], h => simp [Pr.op] at h
    | [_], h => simp [Pr.op] at h
    | [_, _], h => simp [Pr.op] at h
    | _ :: _ :: _ :: _ :: _, h => simp [Pr.op] at h
  obtain ⟨m, k', v', rfl, hop⟩ := hop
  obtain ⟨v, w', K', pl', h1, h2⟩ := h F K pl w { o with op := .mapUpdate t m k' v' } ρ [m, k', v'] hF hρ hI rfl hr
  refine ⟨v, w', K', pl', ?_, h2⟩
  have e : (execOp ρ { o with op := .mapUpdate t m k' v' }) = execOp ρ o := by simp only [execOp, hop]
  unfold OutR at h1 ⊢
  rw [e] at h1
  exact h1

def ilkR : Bool → Bool → Bool
  | true, true => false
  | true, false => true
  | false, b => b
theorem ilk_op {neg : Bool} {o : Oper} {xs : List Operand} (h : (Pr.ilk neg t u).op xs = some o.op) : ∃ x, xs = [x] ∧ o.op = .binOp (if neg then .neq else .eql) t x (.const .nilIface) u := by
  match xs, h with
  | [x], h => cases neg <;> (simp [Pr.op] at h; exact ⟨x, rfl, h.symm⟩)
  | [], h => simp [Pr.op] at h
  | _ :: _ :: _, h => simp [Pr.op] at h
theorem run_eqNilI {ms : Array (String × TypeId)} (hu : P.underlying t = some (.interface ms)) (v : Value) (i : Bool) (hv : match i with | true => v = .nilIface | false => ∃ t p, v = .iface t p) (w : World) : (Op.equal t v .nilIface).run P w = .ok i w := by
  unfold Op.equal Op.maxDepth
  unfold Op.equalIn
  cases i with
  | true => simp only at hv; subst hv; simp [Sem.run_bind, run_underlying hu]
  | false => simp only at hv; obtain ⟨a, b, rfl⟩ := hv; simp [Sem.run_bind, run_underlying hu]

/-- An interface, against nil. -/
theorem pr_ilk {neg : Bool} {bx : List Ent} {i : Bool} {ms : Array (String × TypeId)} (hu : P.underlying t = some (.interface ms)) : PrM P gt (.ilk neg t u) [.ifc i] bx (.bool (ilkR neg i)) bx := by
  intro F K pl w o ρ xs hF hρ hI hq hr
  obtain ⟨x, rfl, hop⟩ := ilk_op hq
  simp only [List.map_cons, List.map_nil, RepL] at hr
  obtain ⟨v, r, hv, h1, h2⟩ := hr
  simp only [List.cons.injEq] at hv
  obtain ⟨rfl, rfl⟩ := hv
  simp only [Rep] at h1
  refine ⟨.bool (ilkR neg i), w, K, pl, .inl ?_, KLe.refl _, PLe.refl _, hI, by simp only [Rep]⟩
  have he := run_eqNilI hu _ i h1 w
  simp only [execOp, hop, hρ]
  cases i with
  | true =>
    simp only at h1
    rw [h1] at he ⊢
    cases neg <;> simp [eqGuard, Sem.run_bind, binOp, eqB, he, ilkR]
  | false =>
    simp only at h1
    obtain ⟨a, b, h1⟩ := h1
    rw [h1] at he ⊢
    cases neg <;> simp [eqGuard, Sem.run_bind, binOp, eqB, he, ilkR]

/-! ### A string's bytes, appended -/
theorem two_op {q : Pr} {f : Operand → Operand → Op} (hf : ∀ x y, q.op [x, y] = some (f x y)) (h0 : q.op [] = none) (h1 : ∀ a, q.op [a] = none) (h2 : ∀ a b c l, q.op (a :: b :: c :: l) = none) {o : Oper} {xs : List Operand} (h : q.op xs = some o.op) : ∃ x y, xs = [x, y] ∧ o.op = f x y := by
  match xs, h with
  | [x, y], h => rw [hf] at h; exact ⟨x, y, rfl, (Option.some.inj h).symm⟩
  | [], h => rw [h0] at h; cases h
  | [_], h => rw [h1] at h; cases h
  | _ :: _ :: _ :: _, h => rw [h2] at h; cases h

theorem sized_bytes (s : List UInt8) : sized 1 (s.map fun b : UInt8 => Value.int .u8 b.toNat) := by
  intro v hv
  obtain ⟨b, _, rfl⟩ := List.mem_map.1 hv
  exact ⟨rfl, fun u hu => by simp [Value.cells] at hu; subst hu; rfl⟩
theorem bytes_RepL (K : Kn) (pl : Pl) : ∀ (s : List UInt8), RepL K pl (bytesD s) (s.map fun b : UInt8 => Value.int .u8 b.toNat)
  | [] => by simp [bytesD, RepL]
  | b :: s => by simp only [bytesD, List.map_cons, RepL]; exact ⟨_, _, rfl, by simp only [Rep], bytes_RepL K pl s⟩

theorem run_append_str {w : World} {ty e : TypeId} {i : TypeInfo} (ht : P.underlying t = some (.slice e)) (hu : P.underlying u = some .string) (hi : P.info? e = some i) (hz : i.zero = some (.int .u8 0)) (hsz : i.size = 1) (hby : i.bytes = 1)
    {v : Value} {n : Nat} {xs : List Value} (hown : w.ownsRow 0 e 1 v n xs) (s : ByteArray) (hlt : n + s.size < 2147483648) :
    ∃ v' w', (Builtin.append_ #[t, u] ty #[v, .string s]).run P w = .ok v' w' ∧ w'.ownsRow 0 e 1 v' (n + s.size) (xs ++ Lib.strCells s) ∧ w.grownBy w' v.ownBlock ∧ (∀ b, v'.ownBlock = some b → v.ownBlock = some b ∨ w.heap.size ≤ b) := by
  have hmax : n + s.size ≤ maxLen := by unfold maxLen; omega
  obtain ⟨v', w', h2, h3, h4, h5⟩ := Lib.run_append_own_string (P := P) w 0 t u ty e i ht hu hi hz hsz hby v n xs hown s hmax (by omega) (Nat.zero_le _)
  refine ⟨v', w', h2, h3, h4, fun b hb => ?_⟩
  rcases hown.2 with ⟨rfl, rfl⟩ | ⟨g, cap, cur, rfl, hbg, hg, hnc, hcm, hcs, htake⟩
  · right
    obtain ⟨v2, w2, h6, h7, _⟩ := Lib.run_append_own_string (P := P) w w.heap.size t u ty e i ht hu hi hz hsz hby (.slice none 0 0) 0 xs ⟨hown.1, .inl ⟨rfl, rfl⟩⟩ s hmax (by omega) (Nat.le_refl _)
    rw [h2] at h6; cases h6
    exact (h7.lt b hb).1
  · by_cases hroom : n + s.size ≤ cap
    · left
      have hfit : n + s.size ≤ cur.size := by omega
      have hr := Lib.run_append_room_string (P := P) w t u ty e i ht hu hi hsz g n cap cur hg s hroom hfit
      rw [h2] at hr; cases hr
      simpa [Value.ownBlock] using hb
    · right
      have holds : ∀ j u, xs[j]? = some u → w.cell? ((⟨g, 0, none⟩ : Addr).add j) = some u := hown.cells (g := g) rfl
      have hr := Lib.run_append_grow_string (P := P) w t u ty e i (.int .u8 0) ht hu hi hz ⟨g, 0, none⟩ n cap xs (by rw [hsz]; simpa using hown.1) holds s (by omega) (by omega) (by rw [hby]; exact growslice_fits (by omega) (by omega))
      rw [h2] at hr; cases hr
      simp [Value.ownBlock] at hb; omega

/-- A string, appended to own bytes. -/
theorem pr_aps {bx : List Ent} {e : TypeId} {i : TypeInfo} {j ver : Nat} {rows : List D} {s : List UInt8} (ht : P.underlying t = some (.slice e)) (hu : P.underlying u = some .string) (hi : P.info? e = some i) (hz : i.zero = some (.int .u8 0)) (hsz : i.size = 1) (hby : i.bytes = 1)
    (hj : entN bx j = some (.arr e 1 ver rows)) (hlt : rows.length + s.length < 2147483648) : PrM P gt (.aps t u) [.own j ver, .str s] bx (.own j (ver + 1)) (setE bx j (.arr e 1 (ver + 1) (rows ++ bytesD s))) := by
  intro F K pl w o ρ xs hF hρ hI hq hr
  obtain ⟨x, y, rfl, hop⟩ := two_op (f := fun x y => .call ⟨.builtin .append, #[x, y], #[t, u]⟩) (fun _ _ => rfl) rfl (fun _ => rfl) (fun _ _ _ _ => rfl) hq
  simp only [List.map_cons, List.map_nil, RepL] at hr
  obtain ⟨v0, r, hv, h1, v1, r1, hv1, h2, _⟩ := hr
  simp only [List.cons.injEq] at hv
  obtain ⟨rfl, rfl⟩ := hv
  simp only [List.cons.injEq] at hv1
  obtain ⟨rfl, rfl⟩ := hv1
  simp only [Rep] at h1 h2
  rw [entN_eq] at hj
  rw [setE_eq]
  obtain ⟨v, vs, h3, h4, h5, h6, h7, h8⟩ := hI.tab.ok j _ hj
  rw [h1.1] at h3; cases h3
  have hss : (⟨s.toArray⟩ : ByteArray).size = s.length := by simp [ByteArray.size]
  obtain ⟨v', w', h16, h17, h18, h19⟩ := run_append_str (P := P) (ty := o.type) ht hu hi hz hsz hby h4 ⟨s.toArray⟩ (by rw [hss]; exact hlt)
  rw [hss] at h17
  have hst : Lib.strCells ⟨s.toArray⟩ = s.map fun b : UInt8 => Value.int .u8 b.toNat := by simp [Lib.strCells]
  rw [hst] at h17
  have hpl : PLe pl (updPl pl j (ver + 1) v') := updPl_le (h8.1 (ver + 1) (by omega))
  have hslice := owns_slice h17
  have hsl0 := owns_slice h4
  have hblk0 : ∀ b, (ρ x).ownBlock = some b ↔ entBlk pl j (.arr e 1 ver rows) = some b := fun b => by
    simp only [entBlk, h1.1, Option.bind_some]; exact (blkV_own hsl0).symm
  refine ⟨v', w', K, _, .inl ?_, KLe.refl _, hpl, hI.upd hj hpl (fun k' ver' hne => updPl_ne (.inl hne)) (fun b hb => ?_) ⟨h18.os, h18.tape, h18.output, h18.size, fun b hb hn => h18.block b hb fun heq => hn ((hblk0 b).1 heq.symm)⟩ ?_, by simp only [Rep]; exact ⟨updPl_self _ _ _ _, hslice⟩⟩
  · simp only [execOp, hop, resolve, invoke, builtin, Sem.run_bind, Sem.run_pure, Result.andThen_ok, List.map_toArray, List.map_cons, List.map_nil, h2]
    rw [h16]
    rfl
  · simp only [entBlk, updPl_self, Option.bind_some] at hb
    rcases h19 b ((blkV_own hslice).1 hb) with h20 | h20
    · exact .inl ((hblk0 b).1 h20)
    · exact .inr h20
  · refine ⟨v', vs ++ s.map fun b : UInt8 => Value.int .u8 b.toNat, updPl_self _ _ _ _, by rw [flat_append, flat_bytes, List.length_append, show (bytesD s).length = s.length by simp [bytesD]]; exact h17, h5.append (bytes_RepL _ _ s), fun u hu => ?_, fun b hb => ?_, fun ver' hlt' => ?_, fun e0 => absurd e0 (by omega)⟩
    · rcases List.mem_append.1 hu with hu | hu
      · exact h6 u hu
      · exact sized_bytes s u hu
    · rcases h19 b hb with h20 | h20
      · exact h7 b h20
      · cases hK : K b with
        | none => rfl
        | some o => have := (Array.getElem?_eq_some_iff.1 (hI.mod _ _ hK)).1; omega
    · rw [updPl_ne (.inr (by omega))]; exact h8.1 ver' (by omega)

/-! ### Own nil rows in what is laid -/
/-- A struct of which one cell is nil rows of one's own. -/
theorem nilAt {K : Kn} {pl : Pl} {z : List D} {vs : List Value} {a sz : Nat} {k : Nat} (h : repsB z vs = true) (ha : z[a]? = some (.ls sz [])) (hk : pl k 0 = some (.slice none 0 0)) (hr : RepL K pl z vs) : RepL K pl (z.set a (.own k 0)) vs := by
  induction z generalizing a vs with
  | nil => simp at ha
  | cons d z ih =>
    cases vs with
    | nil => simp [repsB] at h
    | cons v vs =>
      simp only [repsB, Bool.and_eq_true] at h
      simp only [RepL] at hr
      obtain ⟨v', r', hv, h1, h2⟩ := hr
      cases hv
      cases a with
      | zero =>
        simp at ha; subst ha
        have : v = .slice none 0 0 := by
          have h3 := h.1
          unfold repB at h3
          split at h3 <;> first | rfl | (simp_all; done)
        subst this
        simp only [List.set_cons_zero, RepL, Rep]
        exact ⟨_, _, rfl, ⟨hk, none, 0, 0, rfl⟩, h2⟩
      | succ a =>
        simp only [List.set_cons_succ, RepL]
        exact ⟨_, _, rfl, h1, ih h.2 (by simpa using ha) h2⟩

/-- A new variable of a struct with own nil rows: the rows come first. -/
theorem pr_alc {bx : List Ent} {z : List D} {a sz : Nat} (e : TypeId) (hz : zeroOf P t = some z) (ha : z[a]? = some (.ls sz [])) : PrM P gt (.alc t) [] bx (.box (sizeE bx + 1) 0) (addE (addE bx (.arr e sz 0 [])) (.cells (z.set a (.own (sizeE bx) 0)))) := by
  intro F K pl w o ρ xs hF hρ hI hq hr
  have hop : xs = [] ∧ o.op = .alloc t := by
    match xs, hq with
    | [], h => simp [Pr.op] at h; exact ⟨rfl, h.symm⟩
    | _ :: _, h => simp [Pr.op] at h
  obtain ⟨rfl, hop⟩ := hop
  rw [sizeE_eq, addE_eq, addE_eq]
  obtain ⟨v, h1, h2, _⟩ := run_zero hz w
  obtain ⟨q1, q2⟩ := hI.addNil e sz
  obtain ⟨h3, h4⟩ := repsB_ok K (updPl pl bx.length 0 (.slice none 0 0)) h2
  have h5 := nilAt (k := bx.length) h2 ha (updPl_self _ _ _ _) h3
  obtain ⟨g1, g2, g3⟩ := q2.newVar t h5 h4
  refine ⟨.pointer (some ⟨w.heap.size, 0, none⟩), _, K, _, .inl ?_, KLe.refl _, q1.trans g1, g2, by simpa using g3⟩
  simp only [execOp, hop]
  simp [Instr.alloc, h1, run_newVar]
theorem Inv.newVarT {F : Fr} {K : Kn} {pl : Pl} {bx : List Ent} {w : World} (h : Inv F K pl bx w) {l : List D} {cs : List Value} (T : TypeId) (hl : RepL K pl l cs) (h1 : ∀ c ∈ cs, c.oneCell' = true ∧ c ≠ .nilFunc) :
    let pl' := updPl pl bx.length 0 (.pointer (some ⟨w.heap.size, 0, none⟩))
    PLe pl pl' ∧ Inv F K pl' (bx ++ [.tcells T l]) (w.alloc (.cells cs.toArray T)) ∧ Rep K pl' (.box bx.length 0) (.pointer (some ⟨w.heap.size, 0, none⟩)) := by
  intro pl'
  have hp : PLe pl pl' := updPl_le (h.tab.free _ _ (Nat.le_refl _))
  have := h.add (w' := w.alloc (.cells cs.toArray T)) (.pointer (some ⟨w.heap.size, 0, none⟩)) (.tcells T l) (.inr (entBlk_tcells (updPl_self _ _ _ _))) (Chg.alloc w _)
    ⟨w.heap.size, cs, updPl_self _ _ _ _, h.fresh, heap_new w _, RepL.mono (KLe.refl _) hp _ _ hl, h1⟩
  exact ⟨hp, this.2, by simp only [Rep]; exact ⟨_, updPl_self _ _ _ _, rfl⟩⟩
/-- .. its type kept in mind. -/
def notFn : Value → Bool
  | .nilFunc => false
  | _ => true
theorem pr_alcT {bx : List Ent} {z : List D} {a sz : Nat} (e : TypeId) (hz : zeroOf P t = some z) (hn : (((P.info? t).bind (·.zero)).map fun v => v.cells.toList.all notFn) = some true) (ha : z[a]? = some (.ls sz [])) : PrM P gt (.alc t) [] bx (.box (sizeE bx + 1) 0) (addE (addE bx (.arr e sz 0 [])) (.tcells t (z.set a (.own (sizeE bx) 0)))) := by
  intro F K pl w o ρ xs hF hρ hI hq hr
  have hop : xs = [] ∧ o.op = .alloc t := by
    match xs, hq with
    | [], h => simp [Pr.op] at h; exact ⟨rfl, h.symm⟩
    | _ :: _, h => simp [Pr.op] at h
  obtain ⟨rfl, hop⟩ := hop
  rw [sizeE_eq, addE_eq, addE_eq]
  obtain ⟨v, h1, h2, i, hi, hiz⟩ := run_zero hz w
  rw [hi] at hn
  simp only [Option.bind_some, hiz, Option.map_some, Option.some.injEq, List.all_eq_true] at hn
  obtain ⟨q1, q2⟩ := hI.addNil e sz
  obtain ⟨h3, h4⟩ := repsB_ok K (updPl pl bx.length 0 (.slice none 0 0)) h2
  have h5 := nilAt (k := bx.length) h2 ha (updPl_self _ _ _ _) h3
  obtain ⟨g1, g2, g3⟩ := q2.newVarT t h5 (fun c hc => ⟨h4 c hc, fun e => by have := hn c hc; rw [e] at this; cases this⟩)
  refine ⟨.pointer (some ⟨w.heap.size, 0, none⟩), _, K, _, .inl ?_, KLe.refl _, q1.trans g1, g2, by simpa using g3⟩
  simp only [execOp, hop]
  simp [Instr.alloc, h1, run_newVar]
/-- A struct that is built of one number, with own nil rows. -/
theorem pr_blt {bx : List Ent} {i a sz : Nat} (e : TypeId) {z : List D} {r : List Value} {n : Int} (hb : P.built t [(i, .int .i64 n)] = some r.toArray) (hz : repsB z r = true) (ha : z[a]? = some (.ls sz [])) :
    PrM P gt (.blt t i) [.int .i64 n] bx (.agg (z.set a (.own (sizeE bx) 0))) (addE bx (.arr e sz 0 [])) := by
  intro F K pl w o ρ xs hF hρ hI hq hr
  obtain ⟨x, rfl, hop⟩ := one_op (f := fun x => .build t #[(i, x)]) (fun _ => rfl) rfl (fun _ _ _ => rfl) hq
  have h1 := repL1 hr
  simp only [Rep] at h1
  rw [sizeE_eq, addE_eq]
  obtain ⟨q1, q2⟩ := hI.addNil e sz
  obtain ⟨h3, h4⟩ := repsB_ok K (updPl pl bx.length 0 (.slice none 0 0)) hz
  have h5 := nilAt (k := bx.length) hz ha (updPl_self _ _ _ _) h3
  refine ⟨.agg r.toArray, w, K, _, .inl ?_, KLe.refl _, q1, q2, by simp only [Rep]; exact ⟨r, rfl, h5, h4⟩⟩
  have := run_build w t #[(i, .int .i64 n)] r.toArray hb
  simp [execOp, hop, h1, this]
end
end Go.AM
