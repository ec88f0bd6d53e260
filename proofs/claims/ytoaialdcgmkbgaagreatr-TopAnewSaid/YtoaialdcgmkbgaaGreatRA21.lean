import Derived.Test.YtoaialdcgmkbgaaGreatRA20
import Derived.ProofKit
import Derived.Lib.SmallJoins
import Derived.Lib.LaidU8
import Derived.LaidMore
import Derived.Lay
import Derived.Stop.Joined

set_option linter.all false
namespace Go.AM
open Go Go.RowKit Go.ChangeShapes Go.WideShapes Go.ChangeAt Go.Joins
theorem VB {H : Type} {enc : TypeId × Value -> H} {P : Program} (hl : laidOutB P = true) {W W' : World} (hb : Below W.heap.size W W') :
  ∀ {ts : List TypeId} {vs : List Value} {ds : List (DataW H)} {ps : List MemPlace}, (ts.all fun t => P.readableRec t && decide (t < P.types.size)) = true -> DataW.TrodAll enc P W 0 (fun _ => true) true ts vs ds ps -> (∀ x ∈ ps, x.block < W.heap.size) ->
   DataW.TrodAll enc P W' 0 (fun b => decide (b < W.heap.size)) true ts vs ds ps
 | [], _, _, _, _, h, _ => by
   obtain ⟨rfl, rfl, rfl⟩ := trodAll_nil h
   rfl
 | t :: ts, _, _, _, hr, h, hlt => by
   obtain ⟨v, vs1, d, ds1, a, b, rfl, rfl, rfl, h1, h2⟩ := trodAll_cons h
   simp only [List.all_cons, Bool.and_eq_true, decide_eq_true_eq] at hr
   exact trodAll_cons_mk (Below.trod hl hr.1.1 hr.1.2 h1 hb fun x hx => hlt x (by simp [hx])) (VB hl hb (by simpa using hr.2) h2 fun x hx => hlt x (by simp [hx]))
theorem Below.keptAll {W W' : World} (hb : Below W.heap.size W W') (may : MemPlace -> Prop) : W.keptBut W' may := by
 refine ⟨hb.os, hb.output, fun i hi => ?_⟩
 rw [hb.block i hi]
 cases h : W.heap[i]? with
 | none => trivial
 | some o => cases o <;> simp
theorem ky5 {H : Type} {enc : TypeId × Value -> H} {P : Program} {f : Func} {s : ChangeSpec} {apart fresh handsOn : Bool} {W W' : World} {args : Array Value} {ds gs : List (DataW H)} {before : List MemPlace} {tb : TypeId}
  (hl : laidOutB P = true) (hps : (f.params.toList.all fun t => P.readableRec t && decide (t < P.types.size)) = true) (hvars : s.vars = []) (hrt : f.resultTypes = #[tb]) (htb : P.underlying tb = some .bool)
  (hW : DataW.Whole enc P f.params.toList s.vars apart W args.toList ds gs before) (hfn : s.fn H ds = { results := [.lit (.bool true)], args := ds }) (hb : Below W.heap.size W W') :
  s.post enc P f apart fresh handsOn false W args (.bool true) W' := by
 have hW' := hW
 obtain ⟨p, q, hA, hV, rfl, hz, hn⟩ := hW
 rw [hvars] at hV
 obtain ⟨rfl, rfl⟩ := trodVars_none hV
 refine ⟨ds, [], p ++ [], [], p, [], hW', ?_, ?_, ?_, Below.keptAll hb _, nofun⟩
 ·rw [hrt, List.append_nil, hfn]
  show DataW.TrodAll enc P W' _ _ _ [tb] [.bool true] [.lit (.bool true)] []
  exact trodAll_mk1 ⟨1, by simp [DataW.trod, htb, Value.cells]⟩
 ·rw [List.append_nil, hfn]
  exact VB hl hb hps hA fun x hx => hW'.lt x (by simp [hx])
 ·rw [hvars, List.append_nil, hfn]
  exact rfl
theorem kK1 {k : IntKind} {n : Int} (h : (Lit.int k n).wf = true) : j5 k n := by
 cases k <;> simp [Lit.wf, IntKind.min, IntKind.max, IntKind.signed, IntKind.bits] at h <;> simp only [j5] <;> omega
def K0 (W : World) : Kn := fun b => W.heap[b]?
theorem kV3 (W : World) : ∀ b o, K0 W b = some o -> W.heap[b]? = some o := fun _ _ h => h
theorem kq3 {P : Program} {gt : Nat -> Option (List D)} {f : FuncId} {W : World} {vs : Array Value} {ds : List D} (h : Sp P gt f ds (.bool true)) (hg : GlobOk gt (K0 W)) (hr : RepL (K0 W) vK ds vs.toList) : Calls P f vs W fun e W' => e = .returned (.bool true) /\ Below W.heap.size W W' := by
 refine (h.2 (K0 W) vK W vs (kV3 W) hg ⟨fun k e h => by simp at h, fun i j e f b _ h => by simp at h, fun _ _ _ => rfl⟩ hr).mono ?_
 rintro e w' ⟨v, K', pl', rfl, hI, hv⟩
 simp only [Rep] at hv
 subst hv
 exact ⟨rfl, hI.chg.os, hI.chg.tape, hI.chg.output, hI.chg.size, fun k hk => hI.chg.block k hk Own.nil⟩
def ShF (S : TypeId -> List D -> Prop) : List Field -> List D -> Prop
 | [], l => l = []
 | f :: fs, l => ∃ c r, l = c ++ r /\ S f.type c /\ ShF S fs r
def ShA (S : List D -> Prop) : Nat -> List D -> Prop
 | 0, l => l = []
 | n + 1, l => ∃ c r, l = c ++ r /\ S c /\ ShA S n r
def ZD (P : Program) (t : TypeId) : Bool := match P.underlying t with | some (.struct _) | some (.array _ _) => true | _ => false
def VF (P : Program) (t : TypeId) (c : List D) (d : D) : Prop := match ZD P t with | true => d = .agg c | false => c = [d]
def ZY (P : Program) : Nat -> TypeId -> List D -> Prop
 | 0, _, _ => False
 | n + 1, t, l => match P.underlying t with
   | some (.int k) => ∃ m, l = [.int k m] /\ j5 k m
   | some .bool => ∃ b, l = [.bool b]
   | some .string => ∃ s : List UInt8, l = [.str s] /\ s.length <= maxLen
   | some (.slice e) => ∃ rows : List D, l = [.ls (P.cellsOf e) rows] /\ rows.length <= maxLen /\ ∀ r ∈ rows, ∃ c, ZY P n e c /\ VF P e c r
   | some (.struct fs) => ShF (ZY P n) fs.toList l
   | some (.array m e) => ShA (ZY P n e) m l
   | _ => False
def Sh (P : Program) (n : Nat) (t : TypeId) (d : D) : Prop := ∃ c, ZY P n t c /\ VF P t c d
def okF (P : Program) (S : TypeId -> Bool) : Nat -> List Field -> Nat -> Bool
 | j, [], tot => j == tot
 | j, f :: fs, tot => f.offset == j && (S f.type && okF P S (j + P.cellsOf f.type) fs tot)
def kn9 (P : Program) : Nat -> TypeId -> Bool
 | 0, _ => false
 | n + 1, t => match P.underlying t with
   | some (.int _) | some .bool | some .string => P.cellsOf t == 1
   | some (.slice e) => P.cellsOf t == 1 && (kn9 P n e && decide (0 < P.cellsOf e))
   | some (.struct fs) => okF P (kn9 P n) 0 fs.toList (P.cellsOf t)
   | some (.array m e) => kn9 P n e && P.cellsOf t == m * P.cellsOf e
   | _ => false
section
variable {H : Type} {enc : TypeId × Value -> H} {P : Program} {w : World} {base : Nat} {spare : Nat -> Bool} {held : Bool}
theorem kk9 (a : Addr) (i : Nat) : (a.add i).off = a.off + i := by unfold Addr.add; split <;> simp_all
theorem kB6 {a : Addr} {j : Nat} {v : Value} {cs : Array Value} {T fz} (hb : w.heap[a.block]? = some (.cells cs T fz)) (h : w.cell? (a.add j) = some v) : cs[a.off + j]? = some v := by
 have h1 := block_add a j
 have h2 := kk9 a j
 generalize a.add j = a' at *
 unfold World.cell? at h
 rw [h1, hb] at h
 simp only at h
 split at h
 ·cases h
 ·rw [h2] at h; exact h
theorem kq2 {a : Addr} {j : Nat} {v : Value} (h : w.cell? (a.add j) = some v) : ∃ cs T fz, w.heap[a.block]? = some (.cells cs T fz) := by
 unfold World.cell? at h
 rw [block_add] at h
 split at h
 ·rename_i c T fz hc; exact ⟨c, T, fz, hc⟩
 ·cases h
theorem kq1 {a : Addr} {v : Value} (h : w.cell? (a.add 0) = some v) : a.spot = none := by
 unfold World.cell? Addr.add at h
 simp only [if_true] at h
 split at h
 ·split at h
  ·cases h
  ·rename_i hs; simpa using hs
 ·cases h
theorem ke1 {off : Nat} {cs : Array Value} {l : List Value} (h : ∀ i, i < l.length -> cs[off + i]? = l[i]?) : l <+: cs.toList.drop off := by
 rw [List.prefix_iff_eq_take]
 apply List.ext_getElem?
 intro i
 rw [List.getElem?_take]
 split
 ·rename_i hi
  rw [<- h i hi, List.getElem?_drop]; simp
 ·rename_i hi
  rw [List.getElem?_eq_none (by omega)]
theorem kG3 {K : Kn} {e : TypeId} {n : Nat} {c : List D} {vs : List Value} (hr : RepL K vK c vs) (hs : ZY P n e c) (h1 : ∀ v ∈ vs, v.oneCell' = true) :
  ∃ d v, VF P e c d /\ Rep K vK d v /\ v.cells.toList = vs := by
 cases ha : ZD P e with
 | true => exact ⟨.agg c, .agg vs.toArray, by simp [VF, ha], by simp only [Rep]; exact ⟨vs, rfl, hr, h1⟩, by simp [Value.cells]⟩
 | false =>
   have : ∃ d, c = [d] := by
    cases n with
    | zero => exact hs.elim
    | succ n =>
      simp only [ZY] at hs
      unfold ZD at ha
      split at hs
      ·obtain ⟨m, h, _⟩ := hs; exact ⟨_, h⟩
      ·obtain ⟨m, h⟩ := hs; exact ⟨_, h⟩
      ·obtain ⟨m, h, _⟩ := hs; exact ⟨_, h⟩
      ·obtain ⟨m, h, _⟩ := hs; exact ⟨_, h⟩
      ·rename_i fs hu; rw [hu] at ha; simp at ha
      ·rename_i m e' hu; rw [hu] at ha; simp at ha
      ·exact hs.elim
   obtain ⟨d, rfl⟩ := this
   simp only [RepL] at hr
   obtain ⟨v, r, rfl, hv, rfl⟩ := hr
   refine ⟨d, v, by simp [VF, ha], hv, ?_⟩
   have := h1 v (by simp)
   cases v <;> simp_all [Value.oneCell', Value.cells]
theorem ka3 {K : Kn} {a : Addr} {e : TypeId} {n sz len : Nat} {cs : Array Value} {T fz} (hb : w.heap[a.block]? = some (.cells cs T fz)) (hrow : ∀ i, i < len -> ∃ (c : List D) (vs : List Value), RepL K vK c vs /\ ZY P n e c /\ (∀ v ∈ vs, v.oneCell' = true) /\ vs.length = sz /\ ∀ j, j < sz -> w.cell? ((a.add (i * sz)).add j) = vs[j]?) :
  ∀ m, m <= len -> ∃ (rows : List D) (vs : List Value), rows.length = m /\ RepL K vK rows vs /\ sized sz vs /\ (∀ r ∈ rows, ∃ c, ZY P n e c /\ VF P e c r) /\ (∀ i, i < (qa vs).length -> cs[a.off + i]? = (qa vs)[i]?) := by
 intro m
 induction m with
 | zero => intro _; exact ⟨[], [], rfl, by simp [RepL], fun v h => by simp at h, fun r h => by simp at h, fun i h => by simp [qa] at h⟩
 | succ m ihm =>
   intro hm
   obtain ⟨rows, vs, h1, h2, h3, h4, h5⟩ := ihm (by omega)
   obtain ⟨c, us, h6, h7, h8, h9, h10⟩ := hrow m (by omega)
   obtain ⟨d, v, h11, h12, h13⟩ := kG3 h6 h7 h8
   have hsz := qu h3
   have hl := h2.length
   refine ⟨rows ++ [d], vs ++ [v], by simp [h1], h2.append (by simp only [RepL]; exact ⟨v, [], rfl, h12, rfl⟩), ?_, ?_, ?_⟩
   ·intro u hu
    rcases List.mem_append.1 hu with hu | hu
    ·exact h3 u hu
    ·simp at hu; subst hu
     exact ⟨by rw [<- h9, <- h13]; simp, by rw [h13]; exact h8⟩
   ·intro r hr
    rcases List.mem_append.1 hr with hr | hr
    ·exact h4 r hr
    ·simp at hr; subst hr; exact ⟨c, h7, h11⟩
   ·intro i hi
    rw [Jv] at hi |-
    have e1 : qa [v] = us := by simp [qa, h13]
    rw [e1] at hi |-
    by_cases hlt : i < (qa vs).length
    ·rw [List.getElem?_append_left hlt]; exact h5 i hlt
    ·rw [List.getElem?_append_right (by omega)]
     have hvs : vs.length = m := by omega
     have hj : i - (qa vs).length < sz := by simp at hi; omega
     have h14 := h10 _ hj
     rw [List.getElem?_eq_getElem (by omega)] at h14
     have h15 := kB6 (a := a.add (m * sz)) (by rw [block_add]; exact hb) h14
     rw [kk9] at h15
     rw [List.getElem?_eq_getElem (by omega), <- h15]
     congr 1
     have hfl : (qa vs).length = m * sz := by rw [hsz, hvs]
     omega
def CanF (enc : TypeId × Value -> H) (P : Program) (w : World) (base : Nat) (spare : Nat -> Bool) (held : Bool) (t : TypeId) (cs : List Value) : Prop := ∃ fuel x, DataW.trod enc P w base spare held fuel t cs = some x
theorem jA0 {n : Nat} (ih : ∀ {t : TypeId} {fuel : Nat} {cs : List Value} {x : DataW H × List MemPlace}, kn9 P n t = true -> DataW.trod enc P w base spare held fuel t cs = some x ->
  ∃ l, RepL (K0 w) vK l cs /\ ZY P n t l /\ (∀ c ∈ cs, c.oneCell' = true) /\ cs.length = P.cellsOf t) {cs : List Value} :
  ∀ (fs : List Field) (j : Nat), okF P (kn9 P n) j fs cs.length = true -> (∀ f ∈ fs, CanF enc P w base spare held f.type ((cs.drop f.offset).take (P.cellsOf f.type))) ->
   ∃ l, RepL (K0 w) vK l (cs.drop j) /\ ShF (ZY P n) fs l /\ ∀ c ∈ cs.drop j, c.oneCell' = true
 | [], j, hok, _ => by
   simp only [okF, beq_iff_eq] at hok
   rw [List.drop_of_length_le (by omega)]
   exact ⟨[], by simp [RepL], rfl, fun c h => by simp at h⟩
 | f :: fs, j, hok, hc => by
   simp only [okF, Bool.and_eq_true, beq_iff_eq] at hok
   obtain ⟨ho, hS, hr⟩ := hok
   obtain ⟨fuel, x, hx⟩ := hc f (by simp)
   obtain ⟨c, h1, h2, h3, h4⟩ := ih hS hx
   obtain ⟨r, h5, h6, h7⟩ := jA0 ih fs _ hr fun g hg => hc g (by simp [hg])
   rw [ho] at h1 h3
   have e : cs.drop j = (cs.drop j).take (P.cellsOf f.type) ++ cs.drop (j + P.cellsOf f.type) := by rw [<- List.drop_drop, List.take_append_drop]
   rw [e]
   exact ⟨c ++ r, h1.append h5, ⟨c, r, rfl, h2, h6⟩, fun u hu => (List.mem_append.1 hu).elim (h3 u) (h7 u)⟩
theorem jQ5 {n : Nat} (ih : ∀ {t : TypeId} {fuel : Nat} {cs : List Value} {x : DataW H × List MemPlace}, kn9 P n t = true -> DataW.trod enc P w base spare held fuel t cs = some x ->
  ∃ l, RepL (K0 w) vK l cs /\ ZY P n t l /\ (∀ c ∈ cs, c.oneCell' = true) /\ cs.length = P.cellsOf t) {cs : List Value} {e : TypeId} (hS : kn9 P n e = true) :
  ∀ (m j : Nat), cs.length = (j + m) * P.cellsOf e -> (∀ i, j <= i -> i < j + m -> CanF enc P w base spare held e ((cs.drop (i * P.cellsOf e)).take (P.cellsOf e))) ->
   ∃ l, RepL (K0 w) vK l (cs.drop (j * P.cellsOf e)) /\ ShA (ZY P n e) m l /\ ∀ c ∈ cs.drop (j * P.cellsOf e), c.oneCell' = true
 | 0, j, hl, _ => by
   rw [List.drop_of_length_le (by rw [hl]; simp)]
   exact ⟨[], by simp [RepL], rfl, fun c h => by simp at h⟩
 | m + 1, j, hl, hc => by
   obtain ⟨fuel, x, hx⟩ := hc j (Nat.le_refl _) (by omega)
   obtain ⟨c, h1, h2, h3, h4⟩ := ih hS hx
   obtain ⟨r, h5, h6, h7⟩ := jQ5 ih hS m (j + 1) (by rw [hl]; congr 1; omega) fun i h1 h2 => hc i (by omega) (by omega)
   have e' : cs.drop (j * P.cellsOf e) = (cs.drop (j * P.cellsOf e)).take (P.cellsOf e) ++ cs.drop ((j + 1) * P.cellsOf e) := by
    rw [Nat.succ_mul, <- List.drop_drop, List.take_append_drop]
   rw [e']
   exact ⟨c ++ r, h1.append h5, ⟨c, r, rfl, h2, h6⟩, fun u hu => (List.mem_append.1 hu).elim (h3 u) (h7 u)⟩
theorem ka0 : ∀ (n : Nat) {t : TypeId} {fuel : Nat} {cs : List Value} {x : DataW H × List MemPlace}, kn9 P n t = true -> DataW.trod enc P w base spare held fuel t cs = some x ->
  ∃ l, RepL (K0 w) vK l cs /\ ZY P n t l /\ (∀ c ∈ cs, c.oneCell' = true) /\ cs.length = P.cellsOf t := by
 intro n
 induction n with
 | zero => intro t fuel cs x h; simp [kn9] at h
 | succ n ih =>
   intro t fuel cs x hok h
   simp only [kn9] at hok
   cases hu : P.underlying t with
   | none => rw [hu] at hok; simp at hok
   | some ud =>
     cases ud with
     | int k =>
       rw [hu] at hok
       obtain ⟨m, rfl, _, hw⟩ := DataW.trod_int hu h
       refine ⟨[.int k m], by simp [RepL, Rep], ?_, by simp [Value.oneCell'], by simpa using (beq_iff_eq.1 hok).symm⟩
       simp only [ZY, hu]; exact ⟨m, rfl, kK1 hw⟩
     | bool =>
       rw [hu] at hok
       obtain ⟨m, rfl, _⟩ := DataW.trod_bool hu h
       refine ⟨[.bool m], by simp [RepL, Rep], ?_, by simp [Value.oneCell'], by simpa using (beq_iff_eq.1 hok).symm⟩
       simp only [ZY, hu]; exact ⟨m, rfl⟩
     | string =>
       rw [hu] at hok
       obtain ⟨s, rfl, _, hs⟩ := DataW.trod_string hu h
       refine ⟨[.str s.data.toList], by simp [RepL, Rep], ?_, by simp [Value.oneCell'], by simpa using (beq_iff_eq.1 hok).symm⟩
       simp only [ZY, hu]; exact ⟨_, rfl, hs⟩
     | slice e =>
       rw [hu] at hok
       simp only [Bool.and_eq_true, beq_iff_eq, decide_eq_true_eq] at hok
       obtain ⟨h1, h2, h3⟩ := hok
       rcases DataW.trod_slice hu h with ⟨rfl, _⟩ | ⟨a, len, cap, elems, rest, m, _, rfl, _, hb, hl, hm, hlen, hel, _, _⟩
       ·refine ⟨[.ls (P.cellsOf e) []], ?_, ?_, by simp [Value.oneCell'], by simp [h1]⟩
        ·simp only [RepL, Rep]
         exact ⟨_, _, rfl, ⟨none, 0, 0, rfl, rfl, Nat.le_refl _, fun _ => rfl, .inl trivial⟩, rfl⟩
        ·simp only [ZY, hu]; exact ⟨[], rfl, by simp, fun r h => by simp at h⟩
       ·-- each row
        have hrow : ∀ i, i < len -> ∃ (c : List D) (vs : List Value), RepL (K0 w) vK c vs /\ ZY P n e c /\ (∀ v ∈ vs, v.oneCell' = true) /\ vs.length = P.cellsOf e /\ ∀ j, j < P.cellsOf e -> w.cell? ((a.add (i * P.cellsOf e)).add j) = vs[j]? := by
         intro i hi
         have h4 := hel i hi
         rw [List.getElem?_eq_getElem (by omega)] at h4
         obtain ⟨vs, h5, h6⟩ := Option.bind_eq_some_iff.1 h4
         obtain ⟨c, h7, h8, h9, h10⟩ := ih h2 h6
         exact ⟨c, vs, h7, h8, h9, h10, (World.cells?_some h5).2.2⟩
        have hcap : len <= maxLen := Nat.le_trans hl hm
        by_cases h0 : len = 0
        ·subst h0
         refine ⟨[.ls (P.cellsOf e) []], ?_, ?_, by simp [Value.oneCell'], by simp [h1]⟩
         ·simp only [RepL, Rep]
          exact ⟨_, _, rfl, ⟨some a, 0, cap, rfl, rfl, Nat.zero_le _, nofun, .inl trivial⟩, rfl⟩
         ·simp only [ZY, hu]; exact ⟨[], rfl, by simp, fun r h => by simp at h⟩
        ·obtain ⟨c0, vs0, _, _, _, hz, hc0⟩ := hrow 0 (by omega)
         have hc00 := hc0 0 (by omega)
         rw [List.getElem?_eq_getElem (by omega)] at hc00
         have ea : a.add (0 * P.cellsOf e) = a := by simp [Addr.add]
         rw [ea] at hc00
         obtain ⟨cs, T, fz, hb'⟩ := kq2 hc00
         have hsp := kq1 hc00
         obtain ⟨rows, vs, g1, g2, g3, g4, g5⟩ := ka3 hb' hrow len (Nat.le_refl _)
         refine ⟨[.ls (P.cellsOf e) rows], ?_, ?_, by simp [Value.oneCell'], by simp [h1]⟩
         ·simp only [RepL, Rep]
          refine ⟨_, _, rfl, ⟨some a, len, cap, rfl, g1.symm, hl, nofun, .inr ⟨a.block, a.off, vs, ?_, g2, cs, T, fz, hb', g3, ke1 g5⟩⟩, rfl⟩
          cases a; simp at hsp; rw [hsp]
         ·simp only [ZY, hu]; exact ⟨rows, rfl, by omega, g4⟩
     | struct fs =>
       rw [hu] at hok
       obtain ⟨xs, m, _, _, hlen, _, hf⟩ := DataW.trod_struct hu h
       simp only at hok
       rw [<- hlen] at hok
       obtain ⟨l, h1, h2, h3⟩ := jA0 ih fs.toList 0 hok fun f hf' => by
        obtain ⟨i, hi, rfl⟩ := List.getElem_of_mem hf'
        have hi' : i < fs.size := by simpa using hi
        have := hf i (fs[i]) (by simp [hi'])
        rw [List.getElem?_eq_getElem (by omega)] at this
        exact ⟨_, _, by simpa using this⟩
       simp only [List.drop_zero] at h1 h3
       exact ⟨l, h1, by simp only [ZY, hu]; exact h2, h3, hlen⟩
     | array m e =>
       rw [hu] at hok
       obtain ⟨xs, m', _, _, hlen, hxl, hf⟩ := DataW.trod_array hu h
       simp only [Bool.and_eq_true, beq_iff_eq] at hok
       obtain ⟨l, h1, h2, h3⟩ := jQ5 (cs := cs) ih hok.1 m 0 (by rw [hlen, hok.2]; simp) fun i _ hi => by
        have := hf i (by omega)
        rw [List.getElem?_eq_getElem (by omega)] at this
        exact ⟨_, _, this⟩
       simp only [Nat.zero_mul, List.drop_zero] at h1 h3
       exact ⟨l, h1, by simp only [ZY, hu]; exact h2, h3, hlen⟩
     | _ => rw [hu] at hok; simp at hok
theorem kw2 {n : Nat} {r : Reach} {b0 : Nat} {t : TypeId} {v : Value} {d : DataW H} {ps : List MemPlace} (hok : kn9 P n t = true) (hv : Value.okWide P w r b0 t v) (h : DataW.Trod enc P w base spare held t v d ps) :
  ∃ x : D, Sh P n t x /\ Rep (K0 w) vK x v := by
 obtain ⟨fuel, hf⟩ := h
 obtain ⟨l, h1, h2, h3, h4⟩ := ka0 n hok hf
 cases ha : ZD P t with
 | true =>
   refine ⟨.agg l, ⟨l, h2, by simp [VF, ha]⟩, ?_⟩
   have : ∃ cs, v = .agg cs := by
    unfold ZD at ha
    unfold Value.okWide at hv
    split at ha
    ·rename_i fs hu; rw [hu] at hv; obtain ⟨cs, h, _⟩ := hv; exact ⟨cs, h⟩
    ·rename_i m e hu; rw [hu] at hv; obtain ⟨cs, h, _⟩ := hv; exact ⟨cs, h⟩
    ·cases ha
   obtain ⟨cs, rfl⟩ := this
   simp only [Rep]
   exact ⟨cs.toList, by simp, by simpa [Value.cells] using h1, by simpa [Value.cells] using h3⟩
 | false =>
   have hone : v.cells = #[v] /\ ∃ x, l = [x] := by
    cases n with
    | zero => exact h2.elim
    | succ n =>
      simp only [ZY] at h2
      unfold ZD at ha
      split at h2
      ·rename_i k hu; obtain ⟨m, rfl⟩ := okWide_int hu hv; obtain ⟨m', h, _⟩ := h2; exact ⟨rfl, _, h⟩
      ·rename_i hu; obtain ⟨m, rfl⟩ := okWide_bool hu hv; obtain ⟨m', h⟩ := h2; exact ⟨rfl, _, h⟩
      ·rename_i hu; obtain ⟨m, rfl⟩ := okWide_string hu hv; obtain ⟨m', h, _⟩ := h2; exact ⟨rfl, _, h⟩
      ·rename_i e hu; obtain ⟨a, len, cap, rfl⟩ := okWide_slice hu hv; obtain ⟨m', h, _⟩ := h2; exact ⟨rfl, _, h⟩
      ·rename_i fs hu; rw [hu] at ha; simp at ha
      ·rename_i m e hu; rw [hu] at ha; simp at ha
      ·exact h2.elim
   obtain ⟨hc, x, rfl⟩ := hone
   rw [hc] at h1
   simp only [RepL] at h1
   obtain ⟨u, r', hur, hu, _⟩ := h1
   have : v = u := by simpa using (List.cons.inj hur).1
   subst this
   exact ⟨x, ⟨[x], h2, by simp [VF, ha]⟩, hu⟩
def ShL (P : Program) (n : Nat) : List TypeId -> List D -> Prop
 | [], l => l = []
 | t :: ts, l => ∃ d r, l = d :: r /\ Sh P n t d /\ ShL P n ts r
theorem jS8 {n : Nat} {r : Reach} {b0 : Nat} : ∀ {ts : List TypeId} {vs : List Value} {ds : List (DataW H)} {ps : List MemPlace}, (ts.all fun t => kn9 P n t) = true -> (∀ (j : Nat) t v, ts[j]? = some t -> vs[j]? = some v -> Value.okWide P w r b0 t v) ->
  DataW.TrodAll enc P w base spare held ts vs ds ps -> ∃ dl : List D, ShL P n ts dl /\ RepL (K0 w) vK dl vs
 | [], _, _, _, _, _, h => by
   obtain ⟨rfl, rfl, rfl⟩ := trodAll_nil h
   exact ⟨[], rfl, by simp [RepL]⟩
 | t :: ts, _, _, _, hok, hv, h => by
   obtain ⟨v, vs1, d, ds1, a, b, rfl, rfl, rfl, h1, h2⟩ := trodAll_cons h
   simp only [List.all_cons, Bool.and_eq_true] at hok
   obtain ⟨x, hx, hr⟩ := kw2 hok.1 (hv 0 t v (by simp) (by simp)) h1
   obtain ⟨dl, hl, hrl⟩ := jS8 hok.2 (fun j t' v' ht hv' => hv (j + 1) t' v' (by simpa using ht) (by simpa using hv')) h2
   exact ⟨x :: dl, ⟨x, dl, rfl, hx, hl⟩, by simp only [RepL]; exact ⟨v, vs1, rfl, hr, hrl⟩⟩
end
theorem Xo {α : Type} {g : α -> D} {Q : α -> Prop} : ∀ {rows : List D}, (∀ r ∈ rows, ∃ x, Q x /\ r = g x) -> ∃ l : List α, rows = l.map g /\ ∀ x ∈ l, Q x
 | [], _ => ⟨[], rfl, fun x h => by cases h⟩
 | r :: rows, h => by
   obtain ⟨x, hx, rfl⟩ := h r (by simp)
   obtain ⟨l, rfl, hl⟩ := Xo (rows := rows) fun r hr => h r (by simp [hr])
   exact ⟨x :: l, rfl, fun y hy => by rcases List.mem_cons.1 hy with rfl | hy; exact hx; exact hl y hy⟩
theorem jQ4 {P : Program} {n : Nat} {t e : TypeId} {d : D} {α : Type} {g : α -> D} {Q : α -> Prop} (hu : P.underlying t = some (.slice e)) (h : Sh P (n + 1) t d) (hg : ∀ r, Sh P n e r -> ∃ x, Q x /\ r = g x) : ∃ l : List α, d = .ls (P.cellsOf e) (l.map g) /\ l.length <= maxLen /\ ∀ x ∈ l, Q x := by
 obtain ⟨c, h1, h2⟩ := h
 simp only [ZY, hu] at h1
 obtain ⟨rows, rfl, hm, hr⟩ := h1
 simp only [VF, ZD, hu] at h2
 obtain ⟨l, rfl, hl⟩ := Xo fun r hr' => hg r (by obtain ⟨c, h3, h4⟩ := hr r hr'; exact ⟨c, h3, h4⟩)
 exact ⟨l, (List.cons.inj h2).1.symm, by simpa using hm, hl⟩
def Jg (P : Program) (t : TypeId) : Option (List TypeId) := match P.underlying t with | some (.struct fs) => some (fs.toList.map (·.type)) | _ => none
def ShT (S : TypeId -> List D -> Prop) : List TypeId -> List D -> Prop
 | [], l => l = []
 | t :: ts, l => ∃ c r, l = c ++ r /\ S t c /\ ShT S ts r
theorem kM0 {S : TypeId -> List D -> Prop} : ∀ {fs : List Field} {l : List D}, ShF S fs l -> ShT S (fs.map (·.type)) l
 | [], _, h => h
 | f :: fs, _, ⟨c, r, h1, h2, h3⟩ => ⟨c, r, h1, h2, kM0 h3⟩
theorem ka1 {P : Program} {n : Nat} {t : TypeId} {ts : List TypeId} {c : List D} (hu : Jg P t = some ts) (h : ZY P (n + 1) t c) : ShT (ZY P n) ts c := by
 unfold Jg at hu
 split at hu
 ·rename_i fs hfs
  cases hu
  simp only [ZY, hfs] at h
  exact kM0 h
 ·cases hu
theorem ku5 {P : Program} {n : Nat} {t : TypeId} {ts : List TypeId} {d : D} (hu : Jg P t = some ts) (h : Sh P (n + 1) t d) : ∃ c, d = .agg c /\ ShT (ZY P n) ts c := by
 obtain ⟨c, h1, h2⟩ := h
 have h3 := ka1 hu h1
 unfold Jg at hu
 split at hu
 ·rename_i fs hfs
  simp only [VF, ZD, hfs] at h2
  exact ⟨c, h2, h3⟩
 ·cases hu
theorem qQ {P : Program} {n : Nat} {t : TypeId} {k : IntKind} {c : List D} (hu : qy P t = some k) (h : ZY P (n + 1) t c) : ∃ m, c = [.int k m] /\ j5 k m := by
 have hu' := YG hu
 simpa only [ZY, hu'] using h
theorem Yk {P : Program} {n : Nat} {t : TypeId} {c : List D} (hu : P.underlying t = some .bool) (h : ZY P (n + 1) t c) : ∃ b, c = [.bool b] := by
 simpa only [ZY, hu] using h
theorem km9 {P : Program} {n : Nat} {t e : TypeId} {c : List D} {α : Type} {g : α -> D} {Q : α -> Prop} (hu : P.underlying t = some (.slice e)) (h : ZY P (n + 1) t c) (hg : ∀ r, Sh P n e r -> ∃ x, Q x /\ r = g x) : ∃ l : List α, c = [.ls (P.cellsOf e) (l.map g)] /\ l.length <= maxLen /\ ∀ x ∈ l, Q x := by
 simp only [ZY, hu] at h
 obtain ⟨rows, rfl, hm, hr⟩ := h
 obtain ⟨l, rfl, hl⟩ := Xo fun r hr' => hg r (by obtain ⟨c, h3, h4⟩ := hr r hr'; exact ⟨c, h3, h4⟩)
 exact ⟨l, rfl, by simpa using hm, hl⟩
theorem kJ1 {H : Type} {enc : TypeId × Value -> H} {P : Program} {gt : Nat -> Option (List D)} {f : FuncId} {fn : Func} {s : ChangeSpec} {apart fresh handsOn : Bool} {W : World} {args : Array Value} {ds gs : List (DataW H)} {before : List MemPlace} {tb : TypeId} {n base : Nat} {r : Reach}
  (hl : laidOutB P = true) (hps : (fn.params.toList.all fun t => P.readableRec t && decide (t < P.types.size)) = true) (hok : (fn.params.toList.all fun t => kn9 P n t) = true) (hvars : s.vars = []) (hrt : fn.resultTypes = #[tb]) (htb : P.underlying tb = some .bool)
  (hval : ∀ (j : Nat) t v, fn.params[j]? = some t -> args[j]? = some v -> Value.okWide P W r base t v)
  (hW : DataW.Whole enc P fn.params.toList s.vars apart W args.toList ds gs before) (hfn : fn.params.size = ds.length -> s.fn H ds = { results := [.lit (.bool true)], args := ds })
  (hg : GlobOk gt (K0 W)) (hsp : ∀ dl, ShL P n fn.params.toList dl -> Sp P gt f dl (.bool true)) :
  Calls P f args W fun e W' => ∃ v, e = .returned v /\ s.post enc P fn apart fresh handsOn false W args v W' := by
 have hW' := hW
 obtain ⟨p, q, hA, hV, rfl, hz, hn⟩ := hW
 obtain ⟨dl, h1, h2⟩ := jS8 (b0 := base) (r := r) hok (fun j t v ht hv => hval j t v (by simpa using ht) (by simpa using hv)) hA
 have hlen : ∀ {ts : List TypeId} {vs : List Value} {ds : List (DataW H)} {ps : List MemPlace}, DataW.TrodAll enc P W 0 (fun _ => true) true ts vs ds ps -> ts.length = ds.length := by
  intro ts
  induction ts with
  | nil => intro vs ds ps h; obtain ⟨rfl, rfl, rfl⟩ := trodAll_nil h; rfl
  | cons t ts ih => intro vs ds ps h; obtain ⟨v, vs1, d, ds1, a, b, rfl, rfl, rfl, h1, h2⟩ := trodAll_cons h; simp [ih h2]
 refine (kq3 (hsp dl h1) hg h2).mono fun e W' ⟨he, hw⟩ => ?_
 subst he
 exact ⟨_, rfl, ky5 hl hps hvars hrt htb hW' (hfn (by simpa using hlen hA)) hw⟩

section
variable {P : Program} {w : World} {base : Nat} {spare : Nat -> Bool} {held : Bool} {enc : TypeId × Value -> Unit}
end
end Go.AM
