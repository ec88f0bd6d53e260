import Derived.Test.YtoaialdcgmkbgaaGreatRA22

set_option linter.all false
namespace Go.AM
open Go Go.RowKit
theorem xE {n : Nat} : ∀ {bx : List Ent}, lowB n bx = true → lowB (n + 1) bx = true
  | [], _ => rfl
  | e :: r, h => by
    cases e <;> simp only [lowB, Bool.and_eq_true] at h ⊢
    case cells l => exact ⟨z1 _ h.1, xE h.2⟩
    case tcells T l => exact ⟨z1 _ h.1, xE h.2⟩
    case map ks vs => exact ⟨z1 _ h.1, z1 _ h.2.1, xE h.2.2⟩
    all_goals exact xE h
theorem lowB_app {n : Nat} : ∀ {a b : List Ent}, lowB n a = true → lowB n b = true → lowB n (a ++ b) = true
  | [], b, _, h => h
  | e :: r, b, h, hb => by
    cases e <;> simp only [lowB, List.cons_append, Bool.and_eq_true] at h ⊢
    case cells l => exact ⟨h.1, lowB_app h.2 hb⟩
    case tcells T l => exact ⟨h.1, lowB_app h.2 hb⟩
    case map ks vs => exact ⟨h.1, h.2.1, lowB_app h.2.2 hb⟩
    all_goals exact lowB_app h hb
theorem qX (b es : List Ent) : subB (b ++ es) b := by
  have := x4 b.length (b ++ es)
  simpa using this
theorem PrD.frame {P : Program} {F1 : Fr} {q : Pr} {ds : List D} {b b' : List Ent} {d : D} (h : PrD P (FLe F1) q ds b d b') (h1 : F1.n0 = b.length) (hb : lowB b.length b = true) (hds : lowL b.length ds = true) (hb' : b'.length = b.length) (hd : scal d = true) (es : List Ent) :
    PrD P (FLe F1) q ds (b ++ es) d (b' ++ es) := by
  intro F K pl w o ρ xs hF hρ hI hop hrep
  obtain ⟨plc, hplc⟩ : ∃ plc, plc = xN b.length pl := ⟨_, rfl⟩
  have hIc : Inv { F with n0 := 0 } K plc b w := by
    have hI0 : Inv { F with n0 := 0 } K pl (b ++ es) w := ⟨hI.chg, hI.mod, hI.le, hI.new, hI.tab, hI.own, Nat.zero_le _, fun k ver x hk => absurd hk (Nat.not_lt_zero _), hI.glob⟩
    rw [hplc]
    exact hI0.cut (Nat.zero_le _) (qX b es) hb
  have hlt : ∀ {k}, k < b.length → ∀ ver, plc k ver = pl k ver := fun hk ver => by rw [hplc, qr hk]
  have hle : PLe plc pl := fun k ver x hx => by
    by_cases hk : k < b.length
    · rw [hlt hk] at hx; exact hx
    · rw [hplc, cutPl_ge (Nat.le_of_not_lt hk)] at hx; cases hx
  let F2 : Fr := ⟨Own plc b, w, K, b.length, plc, F.gt⟩
  have hI2 : Inv F2 K plc b w := ⟨Chg.refl _ _, hI.mod, KLe.refl _, fun b o h => .inl h, hIc.tab, fun k e b hk hb => .inl ⟨k, e, hk, hb⟩, Nat.le_refl _, fun k ver x _ h => h, hI.glob⟩
  have hF2 : FLe F1 F2 := ⟨hF.K.trans hI.le, by rw [h1]; exact Nat.le_refl _, fun k ver x hk hx => by
    show plc k ver = some x
    rw [hlt (by rw [← h1]; exact hk)]
    exact hI.keep k ver x (Nat.lt_of_lt_of_le hk hF.n0) (hF.pl k ver x hk hx), hF.gt⟩
  have hgl : ∀ {k : Nat} {e : Ent}, (b ++ es)[k]? = some e → b.length ≤ k → es[k - b.length]? = some e := fun hk hl => by rwa [List.getElem?_append_right hl] at hk
  have key : ∀ {v : Value} {w' : World} {K' : Kn} {pl' : Pl}, KLe K K' → PLe plc pl' → Inv F2 K' pl' b' w' → Rep K' pl' d v →
      ∃ pl'', PLe pl pl'' ∧ Inv F K' pl'' (b' ++ es) w' ∧ Rep K' pl'' d v := by
    intro v w' K' pl' g1 g2 g3 g4
    obtain ⟨pl'', hpl''⟩ : ∃ pl'' : Pl, pl'' = fun k ver => if k < b.length then pl' k ver else pl k ver := ⟨_, rfl⟩
    have l1 : ∀ {k}, k < b.length → ∀ ver, pl'' k ver = pl' k ver := fun hk ver => by rw [hpl'']; simp [hk]
    have l2 : ∀ {k}, b.length ≤ k → ∀ ver, pl'' k ver = pl k ver := fun hk ver => by rw [hpl'']; simp [Nat.not_lt.2 hk]
    have p1 : PLe pl pl'' := fun k ver x hx => by
      by_cases hk : k < b.length
      · rw [l1 hk]; exact g2 _ _ _ (by rw [hlt hk]; exact hx)
      · rw [l2 (Nat.le_of_not_lt hk)]; exact hx
    have p2 : PLe pl' pl'' := fun k ver x hx => by
      by_cases hk : k < b.length
      · rw [l1 hk]; exact hx
      · rw [g3.tab.free k ver (by omega)] at hx; cases hx
    have hown : ∀ c, Own plc b c → F.S c ∨ F.w.heap.size ≤ c := fun c ⟨k, e, hk, hc⟩ => hIc.own k e c hk hc
    have hblk1 : ∀ {k e}, k < b.length → ku pl'' k e = ku pl' k e := fun {k e} hk => by cases e <;> simp [ku, l1 hk]
    have hblk2 : ∀ {k e}, b.length ≤ k → ku pl'' k e = ku pl k e := fun {k e} hk => by cases e <;> simp [ku, l2 hk]
    have hblkc : ∀ {k e}, k < b.length → ku plc k e = ku pl k e := fun {k e} hk => by cases e <;> simp [ku, hlt hk]
    -- what lies beside keeps its block
    have hside : ∀ {k : Nat} {e : Ent} {c : Nat}, es[k - b.length]? = some e → b.length ≤ k → ku pl k e = some c → c < w.heap.size ∧ K c = none ∧ ¬ Own plc b c := fun {k e c} hk hl hc => by
      have hk' : (b ++ es)[k]? = some e := by rw [List.getElem?_append_right hl]; exact hk
      obtain ⟨q1, q2⟩ := hI.tab.lt hk' hc
      refine ⟨q1, q2, fun ⟨j, f, hj, hjc⟩ => ?_⟩
      have hjl := (List.getElem?_eq_some_iff.1 hj).1
      rw [hblkc hjl] at hjc
      exact hI.tab.sep j k f e c (by omega) (by rw [List.getElem?_append_left hjl]; exact hj) hk' hjc hc
    have hKn : ∀ {c}, c < w.heap.size → K c = none → ¬ Own plc b c → K' c = none := fun {c} q1 q2 q3 => by
      cases hc : K' c with
      | none => rfl
      | some o =>
        rcases g3.new c o hc with h7 | h7 | h7
        · have h8 : K c = some o := h7
          rw [q2] at h8; cases h8
        · exact absurd h7 q3
        · have : w.heap.size ≤ c := h7
          omega
    have hget : ∀ {k e}, (b' ++ es)[k]? = some e → (k < b.length ∧ b'[k]? = some e) ∨ (b.length ≤ k ∧ es[k - b.length]? = some e) := fun {k e} hk => by
      by_cases hlk : k < b.length
      · rw [List.getElem?_append_left (by omega)] at hk; exact .inl ⟨hlk, hk⟩
      · rw [List.getElem?_append_right (by omega)] at hk; rw [hb'] at hk; exact .inr ⟨by omega, hk⟩
    refine ⟨pl'', p1, ⟨hI.chg.trans g3.chg fun c hc hs => ?_, g3.mod, hI.le.trans g1, fun c o hc => ?_, ⟨fun k e hk => ?_, fun i j e f c hij hi hj hc hc' => ?_, fun k ver hk => ?_⟩, fun k e c hk hc => ?_, ?_, fun k ver x hk hx => p1 _ _ _ (hI.keep k ver x hk hx), g3.glob⟩, ?_⟩
    · rcases hown c hs with h7 | h7
      · exact h7
      · omega
    · rcases g3.new c o hc with h7 | h7 | h7
      · exact hI.new c o h7
      · exact .inr (hown c h7)
      · exact .inr (.inr (Nat.le_trans hI.chg.size h7))
    · rcases hget hk with ⟨hlk, hk⟩ | ⟨hlk, hk⟩
      · exact (g3.tab.ok k e hk).move (KLe.refl _) p2 (fun c hc => ⟨rfl, (g3.tab.lt hk hc).2⟩) (l1 hlk)
      · have hk' : (b ++ es)[k]? = some e := by rw [List.getElem?_append_right hlk]; exact hk
        refine (hI.tab.ok k e hk').move g1 p1 (fun c hc => ?_) (l2 hlk)
        obtain ⟨q1, q2, q3⟩ := hside hk hlk hc
        exact ⟨g3.chg.block c q1 q3, hKn q1 q2 q3⟩
    · rcases hget hi with ⟨hli, hi⟩ | ⟨hli, hi⟩
      · rcases hget hj with ⟨hlj, hj⟩ | ⟨hlj, hj⟩
        · rw [hblk1 hli] at hc; rw [hblk1 hlj] at hc'
          exact g3.tab.sep i j e f c hij hi hj hc hc'
        · rw [hblk1 hli] at hc; rw [hblk2 hlj] at hc'
          obtain ⟨q1, q2, q3⟩ := hside hj hlj hc'
          rcases g3.own i e c hi hc with h7 | h7
          · exact q3 h7
          · have : w.heap.size ≤ c := h7
            omega
      · rcases hget hj with ⟨hlj, hj⟩ | ⟨hlj, hj⟩
        · rw [hblk2 hli] at hc; rw [hblk1 hlj] at hc'
          obtain ⟨q1, q2, q3⟩ := hside hi hli hc
          rcases g3.own j f c hj hc' with h7 | h7
          · exact q3 h7
          · have : w.heap.size ≤ c := h7
            omega
        · rw [hblk2 hli] at hc; rw [hblk2 hlj] at hc'
          exact hI.tab.sep i j e f c hij (by rw [List.getElem?_append_right hli]; exact hi) (by rw [List.getElem?_append_right hlj]; exact hj) hc hc'
    · rw [l2 (by simp at hk; omega)]; exact hI.tab.free k ver (by simp at hk ⊢; omega)
    · rcases hget hk with ⟨hlk, hk⟩ | ⟨hlk, hk⟩
      · rw [hblk1 hlk] at hc
        rcases g3.own k e c hk hc with h7 | h7
        · exact hown c h7
        · exact .inr (Nat.le_trans hI.chg.size h7)
      · rw [hblk2 hlk] at hc
        exact hI.own k e c (by rw [List.getElem?_append_right hlk]; exact hk) hc
    · have := hI.len; simp at this ⊢; omega
    · exact plain_any (by cases d <;> simp_all [plain, scal]) g4
  have hrep2 : RepL K plc ds (xs.map ρ) := by rw [hplc]; exact v8 _ _ hds hrep
  rcases h F2 K plc w o ρ xs hF2 hρ hI2 hop hrep2 with ⟨v, w', K', pl', q0, g1, g2, g3, g4⟩ | ⟨l, f, tmps, assign, body, hrun, hround⟩
  · obtain ⟨pl'', r1, r2, r3⟩ := key g1 g2 g3 g4
    exact .inl ⟨v, w', K', pl'', q0, g1, r1, r2, r3⟩
  · refine .inr ⟨l, f, tmps, assign, body, hrun, hround.mono ?_⟩
    rintro e w' ⟨v, K', pl', rfl, g1, g2, g3, g4⟩
    obtain ⟨pl'', r1, r2, r3⟩ := key g1 g2 g3 g4
    exact ⟨v, K', pl'', rfl, g1, r1, r2, r3⟩
end Go.AM

