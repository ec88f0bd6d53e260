import Derived.Test.YtoaialdcgmkbgaaGreatRA21

set_option linter.all false
namespace Go.AM
open Go Go.RowKit
theorem y6 {n : Nat} : ∀ {bx : List Ent}, k8 n bx = true -> k8 (n + 1) bx = true
 | [], _ => rfl
 | e :: r, h => by
   cases e <;> simp only [k8, Bool.and_eq_true] at h |-
   case cells l => exact ⟨vU _ h.1, y6 h.2⟩
   case tcells T l => exact ⟨vU _ h.1, y6 h.2⟩
   case map ks vs => exact ⟨vU _ h.1, vU _ h.2.1, y6 h.2.2⟩
   all_goals exact y6 h
theorem Zy {n : Nat} : ∀ {a b : List Ent}, k8 n a = true -> k8 n b = true -> k8 n (a ++ b) = true
 | [], b, _, h => h
 | e :: r, b, h, hb => by
   cases e <;> simp only [k8, List.cons_append, Bool.and_eq_true] at h |-
   case cells l => exact ⟨h.1, Zy h.2 hb⟩
   case tcells T l => exact ⟨h.1, Zy h.2 hb⟩
   case map ks vs => exact ⟨h.1, h.2.1, Zy h.2.2 hb⟩
   all_goals exact Zy h hb
theorem vV (b es : List Ent) : Vf (b ++ es) b := by
 have := JT b.length (b ++ es)
 simpa using this
theorem PrD.frame {P : Program} {F1 : Fr} {q : Pr} {ds : List D} {b b' : List Ent} {d : D} (h : PrD P (FLe F1) q ds b d b') (h1 : F1.n0 = b.length) (hb : k8 b.length b = true) (hds : vb b.length ds = true) (hb' : b'.length = b.length) (hd : yP d = true) (es : List Ent) :
  PrD P (FLe F1) q ds (b ++ es) d (b' ++ es) := by
 intro F K pl w o ρ xs hF hρ hI hop hrep
 obtain ⟨plc, hplc⟩ : ∃ plc, plc = Jw b.length pl := ⟨_, rfl⟩
 have hIc : Inv { F with n0 := 0 } K plc b w := by
  have hI0 : Inv { F with n0 := 0 } K pl (b ++ es) w := ⟨hI.chg, hI.mod, hI.le, hI.new, hI.tab, hI.own, Nat.zero_le _, fun k ver x hk => absurd hk (Nat.not_lt_zero _), hI.glob⟩
  rw [hplc]
  exact hI0.cut (Nat.zero_le _) (vV b es) hb
 have hlt : ∀ {k}, k < b.length -> ∀ ver, plc k ver = pl k ver := fun hk ver => by rw [hplc, qD hk]
 have hle : PLe plc pl := fun k ver x hx => by
  by_cases hk : k < b.length
  ·rw [hlt hk] at hx; exact hx
  ·rw [hplc, jW3 (Nat.le_of_not_lt hk)] at hx; cases hx
 let F2 : Fr := ⟨Own plc b, w, K, b.length, plc, F.gt⟩
 have hI2 : Inv F2 K plc b w := ⟨Chg.refl _ _, hI.mod, KLe.refl _, fun b o h => .inl h, hIc.tab, fun k e b hk hb => .inl ⟨k, e, hk, hb⟩, Nat.le_refl _, fun k ver x _ h => h, hI.glob⟩
 have hF2 : FLe F1 F2 := ⟨hF.K.trans hI.le, by rw [h1]; exact Nat.le_refl _, fun k ver x hk hx => by
  show plc k ver = some x
  rw [hlt (by rw [<- h1]; exact hk)]
  exact hI.keep k ver x (Nat.lt_of_lt_of_le hk hF.n0) (hF.pl k ver x hk hx), hF.gt⟩
 have hgl : ∀ {k : Nat} {e : Ent}, (b ++ es)[k]? = some e -> b.length <= k -> es[k - b.length]? = some e := fun hk hl => by rwa [List.getElem?_append_right hl] at hk
 have key : ∀ {v : Value} {w' : World} {K' : Kn} {pl' : Pl}, KLe K K' -> PLe plc pl' -> Inv F2 K' pl' b' w' -> Rep K' pl' d v ->
   ∃ pl'', PLe pl pl'' /\ Inv F K' pl'' (b' ++ es) w' /\ Rep K' pl'' d v := by
  intro v w' K' pl' g1 g2 g3 g4
  obtain ⟨pl'', hpl''⟩ : ∃ pl'' : Pl, pl'' = fun k ver => if k < b.length then pl' k ver else pl k ver := ⟨_, rfl⟩
  have l1 : ∀ {k}, k < b.length -> ∀ ver, pl'' k ver = pl' k ver := fun hk ver => by rw [hpl'']; simp [hk]
  have l2 : ∀ {k}, b.length <= k -> ∀ ver, pl'' k ver = pl k ver := fun hk ver => by rw [hpl'']; simp [Nat.not_lt.2 hk]
  have p1 : PLe pl pl'' := fun k ver x hx => by
   by_cases hk : k < b.length
   ·rw [l1 hk]; exact g2 _ _ _ (by rw [hlt hk]; exact hx)
   ·rw [l2 (Nat.le_of_not_lt hk)]; exact hx
  have p2 : PLe pl' pl'' := fun k ver x hx => by
   by_cases hk : k < b.length
   ·rw [l1 hk]; exact hx
   ·rw [g3.tab.free k ver (by omega)] at hx; cases hx
  have hown : ∀ c, Own plc b c -> F.S c \/ F.w.heap.size <= c := fun c ⟨k, e, hk, hc⟩ => hIc.own k e c hk hc
  have hblk1 : ∀ {k e}, k < b.length -> jW pl'' k e = jW pl' k e := fun {k e} hk => by cases e <;> simp [jW, l1 hk]
  have hblk2 : ∀ {k e}, b.length <= k -> jW pl'' k e = jW pl k e := fun {k e} hk => by cases e <;> simp [jW, l2 hk]
  have hblkc : ∀ {k e}, k < b.length -> jW plc k e = jW pl k e := fun {k e} hk => by cases e <;> simp [jW, hlt hk]
  -- what lies beside keeps its block
  have hside : ∀ {k : Nat} {e : Ent} {c : Nat}, es[k - b.length]? = some e -> b.length <= k -> jW pl k e = some c -> c < w.heap.size /\ K c = none /\ ¬ Own plc b c := fun {k e c} hk hl hc => by
   have hk' : (b ++ es)[k]? = some e := by rw [List.getElem?_append_right hl]; exact hk
   obtain ⟨q1, q2⟩ := hI.tab.lt hk' hc
   refine ⟨q1, q2, fun ⟨j, f, hj, hjc⟩ => ?_⟩
   have hjl := (List.getElem?_eq_some_iff.1 hj).1
   rw [hblkc hjl] at hjc
   exact hI.tab.sep j k f e c (by omega) (by rw [List.getElem?_append_left hjl]; exact hj) hk' hjc hc
  have hKn : ∀ {c}, c < w.heap.size -> K c = none -> ¬ Own plc b c -> K' c = none := fun {c} q1 q2 q3 => by
   cases hc : K' c with
   | none => rfl
   | some o =>
     rcases g3.new c o hc with h7 | h7 | h7
     ·have h8 : K c = some o := h7
      rw [q2] at h8; cases h8
     ·exact absurd h7 q3
     ·have : w.heap.size <= c := h7
      omega
  have hget : ∀ {k e}, (b' ++ es)[k]? = some e -> (k < b.length /\ b'[k]? = some e) \/ (b.length <= k /\ es[k - b.length]? = some e) := fun {k e} hk => by
   by_cases hlk : k < b.length
   ·rw [List.getElem?_append_left (by omega)] at hk; exact .inl ⟨hlk, hk⟩
   ·rw [List.getElem?_append_right (by omega)] at hk; rw [hb'] at hk; exact .inr ⟨by omega, hk⟩
  refine ⟨pl'', p1, ⟨hI.chg.trans g3.chg fun c hc hs => ?_, g3.mod, hI.le.trans g1, fun c o hc => ?_, ⟨fun k e hk => ?_, fun i j e f c hij hi hj hc hc' => ?_, fun k ver hk => ?_⟩, fun k e c hk hc => ?_, ?_, fun k ver x hk hx => p1 _ _ _ (hI.keep k ver x hk hx), g3.glob⟩, ?_⟩
  ·rcases hown c hs with h7 | h7
   ·exact h7
   ·omega
  ·rcases g3.new c o hc with h7 | h7 | h7
   ·exact hI.new c o h7
   ·exact .inr (hown c h7)
   ·exact .inr (.inr (Nat.le_trans hI.chg.size h7))
  ·rcases hget hk with ⟨hlk, hk⟩ | ⟨hlk, hk⟩
   ·exact (g3.tab.ok k e hk).move (KLe.refl _) p2 (fun c hc => ⟨rfl, (g3.tab.lt hk hc).2⟩) (l1 hlk)
   ·have hk' : (b ++ es)[k]? = some e := by rw [List.getElem?_append_right hlk]; exact hk
    refine (hI.tab.ok k e hk').move g1 p1 (fun c hc => ?_) (l2 hlk)
    obtain ⟨q1, q2, q3⟩ := hside hk hlk hc
    exact ⟨g3.chg.block c q1 q3, hKn q1 q2 q3⟩
  ·rcases hget hi with ⟨hli, hi⟩ | ⟨hli, hi⟩
   ·rcases hget hj with ⟨hlj, hj⟩ | ⟨hlj, hj⟩
    ·rw [hblk1 hli] at hc; rw [hblk1 hlj] at hc'
     exact g3.tab.sep i j e f c hij hi hj hc hc'
    ·rw [hblk1 hli] at hc; rw [hblk2 hlj] at hc'
     obtain ⟨q1, q2, q3⟩ := hside hj hlj hc'
     rcases g3.own i e c hi hc with h7 | h7
     ·exact q3 h7
     ·have : w.heap.size <= c := h7
      omega
   ·rcases hget hj with ⟨hlj, hj⟩ | ⟨hlj, hj⟩
    ·rw [hblk2 hli] at hc; rw [hblk1 hlj] at hc'
     obtain ⟨q1, q2, q3⟩ := hside hi hli hc
     rcases g3.own j f c hj hc' with h7 | h7
     ·exact q3 h7
     ·have : w.heap.size <= c := h7
      omega
    ·rw [hblk2 hli] at hc; rw [hblk2 hlj] at hc'
     exact hI.tab.sep i j e f c hij (by rw [List.getElem?_append_right hli]; exact hi) (by rw [List.getElem?_append_right hlj]; exact hj) hc hc'
  ·rw [l2 (by simp at hk; omega)]; exact hI.tab.free k ver (by simp at hk |-; omega)
  ·rcases hget hk with ⟨hlk, hk⟩ | ⟨hlk, hk⟩
   ·rw [hblk1 hlk] at hc
    rcases g3.own k e c hk hc with h7 | h7
    ·exact hown c h7
    ·exact .inr (Nat.le_trans hI.chg.size h7)
   ·rw [hblk2 hlk] at hc
    exact hI.own k e c (by rw [List.getElem?_append_right hlk]; exact hk) hc
  ·have := hI.len; simp at this |-; omega
  ·exact jB1 (by cases d <;> simp_all [VU, yP]) g4
 have hrep2 : RepL K plc ds (xs.map ρ) := by rw [hplc]; exact yh _ _ hds hrep
 rcases h F2 K plc w o ρ xs hF2 hρ hI2 hop hrep2 with ⟨v, w', K', pl', q0, g1, g2, g3, g4⟩ | ⟨l, f, tmps, assign, body, hrun, hround⟩
 ·obtain ⟨pl'', r1, r2, r3⟩ := key g1 g2 g3 g4
  exact .inl ⟨v, w', K', pl'', q0, g1, r1, r2, r3⟩
 ·refine .inr ⟨l, f, tmps, assign, body, hrun, hround.mono ?_⟩
  rintro e w' ⟨v, K', pl', rfl, g1, g2, g3, g4⟩
  obtain ⟨pl'', r1, r2, r3⟩ := key g1 g2 g3 g4
  exact ⟨v, K', pl'', rfl, g1, r1, r2, r3⟩

section
variable {P : Program} {gt : Nat -> Option (List D)} {t e : TypeId}
theorem Yo {K : Kn} {pl : Pl} {a : D} {u : Value} (h : RepL K pl [a] [u]) : Rep K pl a u := by
 simp only [RepL] at h
 obtain ⟨v, r, h1, h2, _⟩ := h
 simp at h1; rw [h1.1]; exact h2
theorem jA1 {K : Kn} {pl : Pl} {a b : D} {u v : Value} (h : RepL K pl [a, b] [u, v]) : Rep K pl a u /\ Rep K pl b v := by
 rw [RepL] at h
 obtain ⟨x, r, h1, h2, h3⟩ := h
 simp at h1; obtain ⟨rfl, rfl⟩ := h1
 exact ⟨h2, Yo h3⟩
theorem jR3 {K : Kn} {pl : Pl} {a b c : D} {u v x : Value} (h : RepL K pl [a, b, c] [u, v, x]) : Rep K pl a u /\ Rep K pl b v /\ Rep K pl c x := by
 rw [RepL] at h
 obtain ⟨y, r, h1, h2, h3⟩ := h
 simp at h1; obtain ⟨rfl, rfl⟩ := h1
 exact ⟨h2, jA1 h3⟩
theorem jc0 {q : Pr} {f : Operand -> Op} (hf : ∀ x, q.op [x] = some (f x)) (h0 : q.op [] = none) (h2 : ∀ a b l, q.op (a :: b :: l) = none) {o : Oper} {xs : List Operand} (h : q.op xs = some o.op) : ∃ x, xs = [x] /\ o.op = f x := by
 match xs, h with
 | [x], h => rw [hf] at h; exact ⟨x, rfl, (Option.some.inj h).symm⟩
 | [], h => rw [h0] at h; cases h
 | _ :: _ :: _, h => rw [h2] at h; cases h
def eqB : Bool -> BinOp
 | true => .neq
 | false => .eql
theorem kU5 {neg : Bool} {o : Oper} {xs : List Operand} (h : (Pr.eqn neg t).op xs = some o.op) : ∃ x, xs = [x] /\ o.op = .binOp (eqB neg) t x (.const (.slice none 0 0)) t := by
 match xs, h with
 | [x], h => simp [Pr.op] at h; exact ⟨x, rfl, by rw [<- h]; cases neg <;> rfl⟩
 | [], h => simp [Pr.op] at h
 | _ :: _ :: _, h => simp [Pr.op] at h
theorem jQ9 (hu : P.underlying t = some (.slice e)) (a : Option Addr) (n c d : Nat) (w : World) : (Op.equalIn (d + 1) t (.slice a n c) (.slice none 0 0)).run P w = .ok a.isNone w := by
 unfold Op.equalIn
 cases a <;> simp [Sem.run_bind, run_underlying hu]
theorem jb4 (hu : P.underlying t = some (.slice e)) (a : Option Addr) (n c : Nat) (w : World) : (Op.equal t (.slice a n c) (.slice none 0 0)).run P w = .ok a.isNone w := by
 unfold Op.equal Op.maxDepth
 exact jQ9 hu a n c _ w
theorem jI4 {bx : List Ent} {sz : Nat} {l : List D} (hu : P.underlying t = some (.slice e)) (neg : Bool) : PrA P gt (.eqn neg t) [.ls sz l] bx (fun d bx' => bx' = bx /\ ∃ b : Bool, d = .bool (b != neg) /\ (b = true -> l = [])) := by
 refine PrA.of ?_
 intro F K pl w o ρ xs hF hρ hI hq hr
 obtain ⟨x, rfl, hop⟩ := kU5 hq
 have h1 := Yo hr
 simp only [Rep] at h1
 obtain ⟨a, n, c, h1, h2, _, _, h3⟩ := h1
 have heq : (Op.equal t (ρ x) (.slice none 0 0)).run P w = .ok a.isNone w := by
  rw [h1]
  exact jb4 hu a n c w
 refine ⟨.bool (a.isNone != neg), w, K, pl, .bool (a.isNone != neg), bx, ⟨rfl, a.isNone, rfl, fun ha => ?_⟩, .inl ?_, KLe.refl _, PLe.refl _, hI, by simp only [Rep]⟩
 ·rcases h3 with h3 | ⟨b, off, vs, h3, _⟩
  ·exact h3
  ·rw [h3] at ha; simp at ha
 ·simp only [execOp, hop, hρ]
  cases neg
  ·simp [h1, eqGuard, Sem.run_bind, binOp, eqB, jb4 hu a n c w]
  ·simp [h1, eqGuard, Sem.run_bind, binOp, eqB, jb4 hu a n c w]
/-! ### Parts -/
theorem ka5 {ρ : Operand -> Value} {len cap : Nat} {lo hi : Option Operand} {l h : Int} (hlo : (lo = none /\ l = 0) \/ ∃ x k, lo = some x /\ ρ x = .int k l) (hhi : (hi = none /\ h = len) \/ ∃ x k, hi = some x /\ ρ x = .int k h)
  (h0 : 0 <= l) (h1 : l <= h) (h2 : h <= len) (hc : len <= cap) (w : World) :
  (Instr.sliceBounds true len cap (lo.map ρ) (hi.map ρ) none).run P w = .ok (l.toNat, h.toNat, cap) w := by
 have h3 : (h : Int) <= cap := by omega
 have hl : ∀ v, v = l -> (∀ k, (Instr.sliceBound (.int k v) h.toNat .sliceB).run P w = .ok l.toNat w) := fun v hv k => by
  subst hv
  have : ¬ max h 0 < v := by omega
  simp [Instr.sliceBound, asIntOf, Sem.run_bind, h0, this]
 have hh : ∀ k code, (Instr.sliceBound (.int k h) cap code).run P w = .ok h.toNat w := fun k code => by
  have : 0 <= h := by omega
  simp [Instr.sliceBound, asIntOf, Sem.run_bind, h3, this]
 rcases hhi with ⟨rfl, rfl⟩ | ⟨x, k, rfl, hx⟩ <;> rcases hlo with ⟨rfl, rfl⟩ | ⟨y, k', rfl, hy⟩
 ·simp [Instr.sliceBounds]
 ·have := hl l rfl k'
  simp at this
  simp [Instr.sliceBounds, hy, Sem.run_bind, this]
 ·simp [Instr.sliceBounds, hx, Sem.run_bind, hh]
 ·simp [Instr.sliceBounds, hx, hy, Sem.run_bind, hh, hl l rfl k']
theorem jb5 {ρ : Operand -> Value} {sz : Nat} (hu : P.underlying t = some (.slice e)) (hs : zl P e = some sz) {ad : Option Addr} {len cap : Nat} {lo hi : Option Operand} {l h : Int} (hlo : (lo = none /\ l = 0) \/ ∃ x k, lo = some x /\ ρ x = .int k l) (hhi : (hi = none /\ h = len) \/ ∃ x k, hi = some x /\ ρ x = .int k h)
  (h0 : 0 <= l) (h1 : l <= h) (h2 : h <= len) (hc : len <= cap) (w : World) {o : Oper} {x : Operand} (ho : o.op = .slice t x lo hi none) (hx : ρ x = .slice ad len cap) :
  (execOp ρ o).run P w = .ok (.value (.slice (if cap = l.toNat then ad else ad.map (·.add (l.toNat * sz))) (h.toNat - l.toNat) (cap - l.toNat))) w := by
 have hb := ka5 (P := P) (len := len) (cap := cap) hlo hhi h0 h1 h2 hc w
 have hsr := qW hs w
 simp [execOp, ho, Instr.sliceAt, Instr.slice, hx, Sem.run_bind, run_underlying hu, hb, hsr]
theorem kb5 {F : Fr} {K : Kn} {pl : Pl} {w : World} {bx : List Ent} (hI : Inv F K pl bx w) {k ver sz : Nat} {rows : List D} (hk : jI bx k = some (.arr e sz ver rows)) {v : Value} (hv : pl k ver = some v /\ ∃ a n c, v = .slice a n c) : ∃ a c, v = .slice a rows.length c /\ rows.length <= c /\ (a = none \/ ∃ g, a = some ⟨g, 0, none⟩) := by
 rw [kG] at hk
 obtain ⟨v1, vs, h4, h5, h6, h7, h8, h9⟩ := hI.tab.ok k _ hk
 rw [hv.1] at h4; cases h4
 rcases h5.2 with ⟨h10, h11⟩ | ⟨g', cap, cur, h10, h11, h12, h13, h14, h15, h16⟩
 ·exact ⟨none, 0, by rw [h10, h11], by omega, .inl rfl⟩
 ·exact ⟨_, cap, h10, h13, .inr ⟨_, rfl⟩⟩
theorem kQ2 {bx : List Ent} {k ver sz : Nat} {rows : List D} (hu : P.underlying t = some (.slice e)) (hs : zl P e = some sz) {ka kb : IntKind} {a b : Int} (hk : jI bx k = some (.arr e sz ver rows)) (h0 : 0 <= a) (h1 : a <= b) (h2 : b <= rows.length) :
  PrM P gt (.sub t true true) [.own k ver, .int ka a, .int kb b] bx (.osl k ver sz a.toNat (b.toNat - a.toNat)) bx := by
 refine PrM.of ?_
 intro F K pl w o ρ xs hF hρ hI hq hr
 match xs, hq with
 | [x, y, z], hq =>
   have ho : o.op = .slice t x (some y) (some z) none := by simpa [Pr.op] using hq.symm
   obtain ⟨hx, hy, hz⟩ := jR3 hr
   simp only [Rep] at hx hy hz
   obtain ⟨ad, c, hv, hc, had⟩ := kb5 hI hk hx
   refine ⟨_, w, K, pl, .inl (jb5 hu hs (.inr ⟨y, ka, rfl, hy⟩) (.inr ⟨z, kb, rfl, hz⟩) h0 h1 h2 hc w ho hv), KLe.refl _, PLe.refl _, hI, ?_⟩
   simp only [Rep]
   exact ⟨ad, rows.length, c, by rw [hx.1, hv], by omega, hc, rfl⟩
 | [], hq => simp [Pr.op] at hq
 | [_], hq => simp [Pr.op] at hq
 | [_, _], hq => simp [Pr.op] at hq
 | _ :: _ :: _ :: _ :: _, hq => simp [Pr.op] at hq
theorem kh5 {bx : List Ent} {k ver sz : Nat} {rows : List D} (hu : P.underlying t = some (.slice e)) (hs : zl P e = some sz) {ka : IntKind} {a : Int} (hk : jI bx k = some (.arr e sz ver rows)) (h0 : 0 <= a) (h1 : a <= rows.length) :
  PrM P gt (.sub t true false) [.own k ver, .int ka a] bx (.osl k ver sz a.toNat (rows.length - a.toNat)) bx := by
 refine PrM.of ?_
 intro F K pl w o ρ xs hF hρ hI hq hr
 match xs, hq with
 | [x, y], hq =>
   have ho : o.op = .slice t x (some y) none none := by simpa [Pr.op] using hq.symm
   obtain ⟨hx, hy⟩ := jA1 hr
   simp only [Rep] at hx hy
   obtain ⟨ad, c, hv, hc, had⟩ := kb5 hI hk hx
   refine ⟨_, w, K, pl, .inl (jb5 hu hs (.inr ⟨y, ka, rfl, hy⟩) (.inl ⟨rfl, rfl⟩) h0 h1 (by omega) hc w ho hv), KLe.refl _, PLe.refl _, hI, ?_⟩
   simp only [Rep]
   exact ⟨ad, rows.length, c, by rw [hx.1, hv], by omega, hc, by simp⟩
 | [], hq => simp [Pr.op] at hq
 | [_], hq => simp [Pr.op] at hq
 | _ :: _ :: _ :: _, hq => simp [Pr.op] at hq
theorem kv5 {bx : List Ent} {k ver sz : Nat} {rows : List D} (hu : P.underlying t = some (.slice e)) (hs : zl P e = some sz) {kb : IntKind} {b : Int} (hk : jI bx k = some (.arr e sz ver rows)) (h0 : 0 <= b) (h2 : b <= rows.length) :
  PrM P gt (.trc t) [.own k ver, .int kb b] bx (.own k (ver + 1)) (jQ bx k (.arr e sz (ver + 1) (rows.take b.toNat))) := by
 refine PrM.of ?_
 intro F K pl w o ρ xs hF hρ hI hq hr
 match xs, hq with
 | [x, y], hq =>
   have ho : o.op = .slice t x none (some y) none := by simpa [Pr.op] using hq.symm
   obtain ⟨hx, hy⟩ := jA1 hr
   simp only [Rep] at hx hy
   obtain ⟨ad, c, hv, hc, had⟩ := kb5 hI hk hx
   rw [kG] at hk
   obtain ⟨v1, vs, h4, h5, h6, h7, h8, h9⟩ := hI.tab.ok k _ hk
   rw [hx.1] at h4
   injection h4 with h4
   rw [<- h4, hv] at h5 h8
   have hnone : pl k (ver + 1) = none := h9.1 _ (by omega)
   refine ⟨_, w, K, qi pl k (ver + 1) (.slice ad b.toNat c), .inl (jb5 hu hs (.inl ⟨rfl, rfl⟩) (.inr ⟨y, kb, rfl, hy⟩) (by omega) h0 h2 hc w ho hv), KLe.refl _, zX hnone, ?_, ?_⟩
   ·rw [qF]
    refine hI.upd hk (zX hnone) (fun k' ver' hk' => qb (.inl hk')) (fun c' hc' => .inl ?_) (Chg.refl _ _) ?_
    ·simp only [jW, jY, Option.bind_some] at hc'
     simp only [jW, hx.1, hv, Option.bind_some]
     cases ad <;> exact hc'
    ·have hl : (rows.take b.toNat).length = b.toNat := by simp; omega
     have hvl := h6.length
     obtain ⟨q1, q2⟩ := xO h7 b.toNat (by omega)
     refine ⟨_, vs.take b.toNat, jY _ _ _ _, ⟨?_, ?_⟩, h6.take _, h7.take _, fun b' hb' => h8 b' (by cases ad <;> exact hb'), fun ver' hv' => ?_, fun e0 => absurd e0 (by omega)⟩
     ·rw [qu (h7.take _), hl, List.length_take, Nat.min_eq_left (by omega)]
     ·rcases h5.2 with ⟨h10, h11⟩ | ⟨g', cap, cur, h10, h11, h12, h13, h14, h15, h16⟩
      ·injection h10 with e1 e2 e3
       left; rw [hl]; subst e1; subst e3
       have : b.toNat = 0 := by omega
       rw [this]; exact ⟨rfl, rfl⟩
      ·injection h10 with e1 e2 e3
       subst e1; subst e3
       right
       refine ⟨g', c, cur, by rw [hl], h11, h12, by rw [hl]; omega, h14, h15, ?_⟩
       rw [hl, <- q1, <- h16, List.take_take]
       congr 1
       exact (Nat.min_eq_left (Nat.mul_le_mul_right _ (by omega))).symm
     ·rw [qb (.inr (by omega))]; exact h9.1 ver' (by omega)
   ·simp only [Rep]
    refine ⟨?_, _, _, _, rfl⟩
    rw [jY]
    rcases had with rfl | ⟨g, rfl⟩ <;> simp [Addr.add_mid]
 | [], hq => simp [Pr.op] at hq
 | [_], hq => simp [Pr.op] at hq
 | _ :: _ :: _ :: _, hq => simp [Pr.op] at hq
theorem kQ6 {bx : List Ent} {sz : Nat} {l : List D} (hu : P.underlying t = some (.slice e)) (hs : zl P e = some sz) {n : Int} (hn : n = l.length) :
  PrM P gt (.clp t) [.ls sz l, .int .i64 n, .int .i64 n] bx (.ls sz l) bx := by
 refine PrM.of ?_
 intro F K pl w o ρ xs hF hρ hI hq hr
 match xs, hq with
 | [x, y, z], hq =>
   have ho : o.op = .slice t x none (some y) (some z) := by simpa [Pr.op] using hq.symm
   obtain ⟨hx, hy, hz⟩ := jR3 hr
   simp only [Rep] at hx hy hz
   obtain ⟨a, m, cap, hv, rfl, hc, hnil, hrows⟩ := hx
   subst hn
   have hb1 : ∀ code (w : World), (Instr.sliceBound (.int .i64 (l.length : Int)) cap code).run P w = .ok l.length w := fun code w => by
    have : (l.length : Int) <= cap := by omega
    simp [Instr.sliceBound, asIntOf, Sem.run_bind, hc]
   have hb2 : ∀ code (w : World), (Instr.sliceBound (.int .i64 (l.length : Int)) l.length code).run P w = .ok l.length w := fun code w => by
    simp [Instr.sliceBound, asIntOf, Sem.run_bind]
   have hb : (Instr.sliceBounds true l.length cap none (some (.int .i64 (l.length : Int))) (some (.int .i64 (l.length : Int)))).run P w = .ok (0, l.length, l.length) w := by
    simp [Instr.sliceBounds, Sem.run_bind, hb1, hb2]
   have hsr := qW hs w
   refine ⟨.slice (if l.length = 0 then a else a.map (·.add (0 * sz))) l.length l.length, w, K, pl, .inl ?_, KLe.refl _, PLe.refl _, hI, ?_⟩
   ·simp [execOp, ho, Instr.sliceAt, Instr.slice, hv, hy, hz, Sem.run_bind, run_underlying hu, hb, hsr]
   ·simp only [Rep]
    refine ⟨_, l.length, l.length, rfl, rfl, Nat.le_refl _, fun hz => ?_, ?_⟩
    ·by_cases h0 : l.length = 0
     ·exact h0
     ·rw [if_neg h0] at hz
      have : a = none := by cases a <;> simp_all
      have := hnil this; omega
    ·rcases hrows with h | ⟨b, off, vs, ha, h6, h7⟩
     ·exact .inl h
     ·by_cases h0 : l.length = 0
      ·exact .inl (List.eq_nil_of_length_eq_zero h0)
      ·exact .inr ⟨b, off, vs, by rw [if_neg h0, ha]; simp [Addr.add_mid], h6, h7⟩
 | [], hq => simp [Pr.op] at hq
 | [_], hq => simp [Pr.op] at hq
 | [_, _], hq => simp [Pr.op] at hq
 | _ :: _ :: _ :: _ :: _, hq => simp [Pr.op] at hq
theorem jm6 {zc : Array Value} {sz : Nat} (hs : zc.size = sz) (h0 : 0 < sz) (n : Nat) {v : Value} (hv : v.cells = zc) : (Builtin.zeroCells zc n).toList = qa (List.replicate n v) := by
 have hl : (qa (List.replicate n v)).length = n * sz := by
  induction n with
  | zero => simp [qa]
  | succ n ih =>
    simp only [qa, List.replicate_succ, List.flatMap_cons, List.length_append] at ih |-
    rw [ih, hv]; simp [hs, Nat.add_mul]; omega
 have hget : ∀ n i, i < n * sz -> (qa (List.replicate n v))[i]? = zc[i % sz]? := by
  intro n
  induction n with
  | zero => intro i hi; simp at hi
  | succ n ih =>
    intro i hi
    simp only [qa, List.replicate_succ, List.flatMap_cons] at ih |-
    by_cases hlt : i < sz
    ·rw [List.getElem?_append_left (by rw [hv]; simp [hs, hlt]), hv, Nat.mod_eq_of_lt hlt]; simp
    ·rw [List.getElem?_append_right (by rw [hv]; simp [hs]; omega), hv]
     rw [show zc.toList.length = sz by simpa using hs, ih _ (by rw [Nat.add_mul] at hi; omega)]
     rw [show i % sz = (i - sz) % sz from by rw [Nat.mod_eq_sub_mod (by omega)]]
 apply List.ext_getElem?
 intro i
 by_cases hi : i < n * sz
 ·rw [hget n i hi]
  have hm : i % sz < zc.size := by rw [hs]; exact Nat.mod_lt _ h0
  simp [Builtin.zeroCells, hs, hi]
  rw [getElem!_pos zc (i % sz) hm, Array.getElem?_eq_getElem hm]
 ·have hzl : (Builtin.zeroCells zc n).toList.length = n * sz := by simp [Builtin.zeroCells, hs]
  rw [List.getElem?_eq_none (by rw [hzl]; omega), List.getElem?_eq_none (by omega)]
theorem kQ5 {bx : List Ent} {k ver sz off len : Nat} {rows : List D} {nn : Option Nat} {z : List D} {r : D} (hu : P.underlying t = some (.slice e)) (han : ve P e = some nn) (hsz : sz = nn.getD 1) (hz : xB P e = some z) (hr0 : ji2 nn z = some r) (hzl : z.length = sz) (hpos : 0 < sz)
  (hk : jI bx k = some (.arr e sz ver rows)) (hl : off + len = rows.length) :
  PrM P gt (.clr t) [.osl k ver sz off len] bx (.tup []) (jQ bx k (.arr e sz ver (rows.take off ++ List.replicate len r))) := by
 refine PrM.of ?_
 intro F K pl w o ρ xs hF hρ hI hq hr
 obtain ⟨x, rfl, hop⟩ := jc0 (f := fun x => .call ⟨.builtin .clear, #[x], #[t]⟩) (fun _ => rfl) rfl (fun _ _ _ => rfl) hq
 have h1 := Yo hr
 simp only [Rep] at h1
 obtain ⟨a, m, c, hv, hle, hmc, hx⟩ := h1
 have hst : ∀ {w' : World}, (Builtin.clear_ #[t] o.type #[ρ x]).run P w = .ok (.tuple #[]) w' -> jy4 P o ρ w (.tuple #[]) w' := fun {w'} h => .inl (by
  simp only [execOp, hop]
  simp only [Sem.run_bind, resolve, Sem.run_pure, Result.andThen_ok, invoke, builtin]
  simp [Sem.run_bind, h])
 have hk' := hk
 rw [kG] at hk
 obtain ⟨v1, vs, h4, h5, h6, h7, h8, h9⟩ := hI.tab.ok k _ hk
 rw [hv] at h4
 injection h4 with h4
 subst h4
 have hvl := h6.length
 by_cases h0 : len = 0
 ·subst h0
  refine ⟨_, w, K, pl, hst ?_, KLe.refl _, PLe.refl _, ?_, by simp [Rep, RepL]⟩
  ·rw [hx]
   generalize (if c = off then a else a.map (·.add (off * sz))) = X
   cases X <;> simp [Builtin.clear_, Sem.run_bind, run_underlying hu]
  ·have e1 : rows.take off ++ List.replicate 0 r = rows := by
    rw [List.take_of_length_le (by omega)]; simp
   rw [e1, qF]
   have : bx.set k (.arr e sz ver rows) = bx := by
    apply List.ext_getElem?
    intro j
    by_cases hj : k = j
    ·subst hj; rw [List.getElem?_set_self (List.getElem?_eq_some_iff.1 hk).1, hk]
    ·rw [List.getElem?_set_ne hj]
   rw [this]; exact hI
 ·obtain ⟨zv, hz1, hz2, i, hz3, hz4⟩ := x6 hz w
  have hzall : ∀ w, (zeroValue e).run P w = .ok zv w := fun w => by
   obtain ⟨zv', h1, _, i', h2, h3⟩ := x6 hz w
   rw [hz3] at h2; cases h2; rw [hz4] at h3; cases h3; exact h1
  have hzs : zv.cells.size = nn.getD 1 := by
   have := (vO K vK hz2).1.length
   simp at this; omega
  obtain ⟨zr, q1, q2, q3⟩ := jN5 han hzs hz2 hr0 K vK
  rcases h5.2 with ⟨h10, h11⟩ | ⟨g', cap, cur, h10, h11, h12, h13, h14, h15, h16⟩
  ·omega
  ·injection h10 with e1 e2 e3
   subst e1; subst e3
   have hne : ¬ c = off := by omega
   rw [if_neg hne] at hx
   have hx' : ρ x = .slice (some ⟨g', off * sz, none⟩) len (c - off) := by rw [hx]; simp [Addr.add_mid]
   have hzc := jm6 (zc := zv.cells) (sz := sz) (by omega) hpos len q2
   have hsized : sized sz (List.replicate len zr) := fun u hu => by
    rw [List.eq_of_mem_replicate hu, q2]; exact ⟨by omega, by rw [<- q2]; exact q3⟩
   have hfl : (qa (List.replicate len zr)).length = len * sz := by rw [qu hsized]; simp
   have hcs : off * sz + len * sz <= cur.size := by
    rw [h15, <- Nat.add_mul]; exact Nat.mul_le_mul_right _ (by omega)
   have hrun := run_storeCells_at P g' (off * sz) e (qa (List.replicate len zr)) 0 cur w h12 (by rw [hfl]; omega) (jt1 hsized)
   simp only [Nat.add_zero] at hrun
   rw [hfl] at hrun
   refine ⟨_, w.setRow g' (cur.toList.take (off * sz) ++ qa (List.replicate len zr) ++ cur.toList.drop (off * sz + len * sz)).toArray, K, pl, hst ?_, KLe.refl _, PLe.refl _, ?_, by simp [Rep, RepL]⟩
   ·rw [hx']
    obtain ⟨len', rfl⟩ : ∃ l', len = l' + 1 := ⟨len - 1, by omega⟩
    simp [Builtin.clear_, Sem.run_bind, run_underlying hu, hzall, hzc, hrun]
   ·rw [qF]
    refine hI.upd hk (PLe.refl _) (fun _ _ _ => rfl) (fun b hb => .inl hb) ⟨rfl, rfl, rfl, by simp, fun b hb hn' => setRow_other _ _ _ _ (fun e' => hn' (by simp [jW, hv, vj, e']))⟩ ?_
    have hrl : (rows.take off ++ List.replicate len r).length = rows.length := by simp; omega
    obtain ⟨p1, p2⟩ := xO h7 off (by omega)
    have hf2 : qa (vs.take off ++ List.replicate len zr) = qa (vs.take off) ++ qa (List.replicate len zr) := by simp [qa]
    have hsz2 : sized sz (vs.take off ++ List.replicate len zr) := fun u hu => by
     rcases List.mem_append.1 hu with h | h
     ·exact (h7.take off) u h
     ·exact hsized u h
    have hft : (qa (vs.take off)).length = off * sz := by rw [qu (h7.take _), List.length_take, Nat.min_eq_left (by omega)]
    refine ⟨_, vs.take off ++ List.replicate len zr, hv, ⟨?_, .inr ⟨g', c, _, by rw [hrl, e2], h11, setRow_heap w g' _ _ e _ h12, by rw [hrl]; omega, h14, ?_, ?_⟩⟩, (h6.take off).append ?_, hsz2, h8, h9.1, fun e0 e1 => ?_⟩
    ·rw [qu hsz2, hrl]
     simp only [List.length_append, List.length_take, List.length_replicate]
     rw [Nat.min_eq_left (by omega), hl]
    ·rw [List.size_toArray]
     simp only [List.length_append, List.length_take, List.length_drop, hfl, Array.length_toList]
     omega
    ·rw [hrl, hf2]
     have ht : cur.toList.take (off * sz) = qa (vs.take off) := by
      rw [<- p1, <- h16, List.take_take, Nat.min_eq_left (Nat.mul_le_mul_right _ (by omega))]
     rw [ht, List.take_append_of_le_length (by rw [List.length_append, hft, hfl, <- hl, Nat.add_mul]; exact Nat.le_refl _)]
     rw [List.take_of_length_le (by rw [List.length_append, hft, hfl, <- hl, Nat.add_mul]; exact Nat.le_refl _)]
    ·generalize len = m
     induction m with
     | zero => simp [RepL]
     | succ m ih => simp only [List.replicate_succ, RepL]; exact ⟨zr, _, rfl, q1, ih⟩
    ·exact h9.2 e0 (List.eq_nil_of_length_eq_zero (by rw [<- hrl, e1]; rfl))
end
theorem SpM.to {P : Program} {gt : Nat -> Option (List D)} {f : Nat} {ds : List D} {bx bx' bx2 : List Ent} {d d2 : D} (h : SpM P gt f ds bx d bx') (hr : Rt bx.length bx' d d2 bx2) : SpM P gt f ds bx d2 bx2 := by
 refine ⟨h.1, fun K pl w vs hmod hglob htab hrep => (h.2 K pl w vs hmod hglob htab hrep).mono ?_⟩
 rintro e w' ⟨v, K', pl', rfl, hI, hr'⟩
 obtain ⟨K2, pl2, hI2, hr2⟩ := hr _ K' pl' w' v rfl hI hr'
 exact ⟨v, K2, pl2, rfl, hI2, hr2⟩
section
variable {P : Program} {gt : Nat -> Option (List D)} {hs : List Prop} {f : Nat} {ds : List D} {dst : Option Nat} {g : G} {os : List O} {st : St} {K : St -> Prop}
theorem Vd (ks : List Nat) {eff : Bool} {ds' : List D} {es : List Ent} {d : D} (h : km hs (SpM P gt f ds' es d es)) (h1 : ds = qY ks (jD st.bx) ds') (h2 : Ko st.bx ks = some (kM ks (jD st.bx) es)) (h3 : kO st.bx ks (kM ks (jD st.bx) es) = st.bx)
  (hk : qj (jE6 P gt) gt os K ⟨jw dst g (kV ks (jD st.bx) d) st.env, st.bx⟩) (hks : jc1 ks = true := by rfl) : jf4 (jE6 P gt) gt hs eff f ds dst g os st K :=
 ⟨_, _, Kk (fun h => by have := SpM.own h ks h1 h2 hks; rw [h3] at this; exact this) h, fun _ => rfl, hk⟩
end
end Go.AM
