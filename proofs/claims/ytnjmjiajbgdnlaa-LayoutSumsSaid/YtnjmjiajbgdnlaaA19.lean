/- Code. -/
import Derived.Test.YtnjmjiajbgdnlaaA18
set_option linter.all false
namespace Go.AM
open Go Go.RowKit

def exO : Ex → Exit
  | .nrm => .normal
  | .exit id => .exit id
  | .ret => .ret

theorem get_keep {env : Env} {s : Nat} {g : G} {d : D} : ∀ {ks : List Nat}, get (keepE env ks) s = some (g, d) → g = [] ∧ get env s = some ([], d)
  | [], h => by simp [keepE, get] at h
  | k :: ks, h => by
    simp only [keepE] at h
    split at h
    · rename_i d' hd
      simp only [get] at h
      cases hks : k == s with
      | true =>
        simp [hks] at h
        obtain ⟨rfl, rfl⟩ := h
        have : k = s := by simpa using hks
        subst this
        exact ⟨rfl, rd_nil hd⟩
      | false => simp [hks] at h; exact get_keep h
    · exact get_keep h

theorem Den.keep {nt : Nat} {F : Fr} {st : St} {a : Act} {w : World} (h : Den nt F st a w) (ks : Option (List Nat)) : Den nt F (keepS ks st) a w := by
  cases ks with
  | none => exact h
  | some ks =>
    obtain ⟨h1, h2, K, pl, h3, h4⟩ := h
    refine ⟨h1, h2, K, pl, h3, fun s g d hg hf => ?_⟩
    obtain ⟨rfl, h5⟩ := get_keep hg
    exact h4 s [] d h5 (.inl rfl)

/-! ### Forgetting -/
def cutPl (n : Nat) (pl : Pl) : Pl := fun k v => if k < n then pl k v else none
theorem cutPl_lt {n : Nat} {pl : Pl} {k v : Nat} (h : k < n) : cutPl n pl k v = pl k v := by simp [cutPl, h]
theorem cutPl_ge {n : Nat} {pl : Pl} {k v : Nat} (h : n ≤ k) : cutPl n pl k v = none := by simp [cutPl, Nat.not_lt.2 h]

theorem blt_iff {a b : Nat} : Nat.blt a b = true ↔ a < b := by
  unfold Nat.blt; rw [Nat.ble_eq]; omega

mutual
theorem low_rep {n : Nat} {K : Kn} {pl : Pl} : ∀ (d : D) (v : Value), low n d = true → Rep K pl d v → Rep K (cutPl n pl) d v
  | .int _ _, _, _, h => by simpa [Rep] using h
  | .bool _, _, _, h => by simpa [Rep] using h
  | .str _, _, _, h => by simpa [Rep] using h
  | .ls _ _, _, _, h => by simpa [Rep] using h
  | .el _ _ _ _, _, _, h => by simpa [Rep] using h
  | .any, _, _, h => by simpa [Rep] using h
  | .mp _ _, _, _, h => by simpa [Rep] using h
  | .nil, _, _, h => by simpa only [Rep] using h
  | .glob _ _, _, _, h => by simpa [Rep] using h
  | .fn f l, v, hl, h => by
    simp only [Rep] at h ⊢
    obtain ⟨cs, h1, h2⟩ := h
    exact ⟨cs, h1, lowL_rep l cs (by simpa [low] using hl) h2⟩
  | .boxi k _, v, hl, h => by
    simp only [Rep] at h ⊢
    rw [cutPl_lt (blt_iff.1 (by simpa [low] using hl))]; exact h
  | .bsl k _ _ _, v, hl, h => by
    simp only [Rep] at h ⊢
    rw [cutPl_lt (blt_iff.1 (by simpa [low] using hl))]; exact h
  | .ownm k _, v, hl, h => by
    simp only [Rep] at h ⊢
    rw [cutPl_lt (blt_iff.1 (by simpa [low] using hl))]; exact h
  | .agg l, v, hl, h => by
    simp only [Rep] at h ⊢
    obtain ⟨cs, h1, h2, h3⟩ := h
    exact ⟨cs, h1, lowL_rep l cs (by simpa [low] using hl) h2, h3⟩
  | .tup l, v, hl, h => by
    simp only [Rep] at h ⊢
    obtain ⟨cs, h1, h2⟩ := h
    exact ⟨cs, h1, lowL_rep l cs (by simpa [low] using hl) h2⟩
  | .box k _, v, hl, h => by
    simp only [Rep] at h ⊢
    rw [cutPl_lt (blt_iff.1 (by simpa [low] using hl))]; exact h
  | .own k _, v, hl, h => by
    simp only [Rep] at h ⊢
    rw [cutPl_lt (blt_iff.1 (by simpa [low] using hl))]; exact h
  | .elo k _ _ _ _, v, hl, h => by
    simp only [Rep] at h ⊢
    rw [cutPl_lt (blt_iff.1 (by simpa [low] using hl))]; exact h
theorem lowL_rep {n : Nat} {K : Kn} {pl : Pl} : ∀ (l : List D) (vs : List Value), lowL n l = true → RepL K pl l vs → RepL K (cutPl n pl) l vs
  | [], _, _, h => by simpa [RepL] using h
  | d :: l, vs, hl, h => by
    simp only [RepL] at h ⊢
    obtain ⟨v, r, h1, h2, h3⟩ := h
    simp only [lowL, Bool.and_eq_true] at hl
    exact ⟨v, r, h1, low_rep d v hl.1 h2, lowL_rep l r hl.2 h3⟩
end

theorem subE_get : ∀ {env env' : Env} {s : Nat} {g : G} {d : D}, subE env env' → get env' s = some (g, d) → get env s = some (g, d)
  | _, [], _, _, _, _, h => by simp [get] at h
  | env, (t, g', d') :: r, s, g, d, hs, h => by
    simp only [subE] at hs
    simp only [get] at h
    cases hts : t == s with
    | true =>
      simp [hts] at h
      have : t = s := by simpa using hts
      subst this
      rw [hs.1, h.1, h.2]
    | false => simp [hts] at h; exact subE_get hs.2 h

theorem subB_get : ∀ {bx bx' : List Ent} {k : Nat} {e : Ent}, subB bx bx' → bx'[k]? = some e → bx[k]? = some e
  | _, [], _, _, _, h => by simp at h
  | [], _ :: _, _, _, h, _ => h.elim
  | x :: l, y :: r, k, e, hs, h => by
    simp only [subB] at hs
    cases k with
    | zero => simp at h ⊢; rw [hs.1, h]
    | succ k => simp at h ⊢; exact subB_get hs.2 h

theorem lowE_get {n : Nat} : ∀ {env : Env} {s : Nat} {g : G} {d : D}, lowE n env = true → get env s = some (g, d) → g = [] ∧ low n d = true
  | [], _, _, _, _, h => by simp [get] at h
  | (t, [], d') :: r, s, g, d, hl, h => by
    simp only [lowE, Bool.and_eq_true] at hl
    simp only [get] at h
    cases hts : t == s with
    | true => simp [hts] at h; obtain ⟨rfl, rfl⟩ := h; exact ⟨rfl, hl.1⟩
    | false => simp [hts] at h; exact lowE_get hl.2 h
  | (_, _ :: _, _) :: _, _, _, _, h, _ => by simp [lowE] at h

theorem lowB_get {n : Nat} : ∀ {bx : List Ent} {k : Nat} {l : List D}, lowB n bx = true → bx[k]? = some (.cells l) → lowL n l = true
  | [], _, _, _, h => by simp at h
  | .cells m :: r, k, l, hl, h => by
    simp only [lowB, Bool.and_eq_true] at hl
    cases k with
    | zero => simp at h; subst h; exact hl.1
    | succ k => simp at h; exact lowB_get hl.2 h
  | .arr _ _ _ m :: r, k, l, hl, h => by
    simp only [lowB] at hl
    cases k with
    | zero => simp at h
    | succ k => simp at h; exact lowB_get hl h
  | .gone :: r, k, l, hl, h => by
    simp only [lowB] at hl
    cases k with
    | zero => simp at h
    | succ k => simp at h; exact lowB_get hl h

theorem entBlk_cut {n : Nat} {pl : Pl} {k : Nat} (h : k < n) (e : Ent) : entBlk (cutPl n pl) k e = entBlk pl k e := by
  cases e <;> simp [entBlk, cutPl_lt h]

theorem Inv.cut {F : Fr} {K : Kn} {pl : Pl} {bx bx' : List Ent} {w : World} (h3 : Inv F K pl bx w) (s0 : F.n0 ≤ bx'.length) (s2 : subB bx bx') (s4 : lowB bx'.length bx' = true) : Inv F K (cutPl bx'.length pl) bx' w := by
  refine ⟨h3.chg, h3.mod, h3.le, h3.new, ⟨?_, ?_, ?_⟩, ?_, s0, ?_, h3.glob⟩
  · intro k e hk
    have hlt := (List.getElem?_eq_some_iff.1 hk).1
    have := h3.tab.ok k e (subB_get s2 hk)
    cases e with
    | cells l =>
      obtain ⟨b, T, cs, h5, h7, h8, h9, h10⟩ := this
      exact ⟨b, T, cs, by rw [cutPl_lt hlt]; exact h5, h7, h8, lowL_rep l cs (lowB_get s4 hk) h9, h10⟩
    | arr e sz ver rows =>
      obtain ⟨v, vs, h5, h6, h7, h8, h9, h10⟩ := this
      exact ⟨v, vs, by rw [cutPl_lt hlt]; exact h5, h6, h7, h8, h9, fun ver' hv => by rw [cutPl_lt hlt]; exact h10 ver' hv⟩
    | gone => trivial
  · intro i j e f b hij hi hj
    rw [entBlk_cut (List.getElem?_eq_some_iff.1 hi).1, entBlk_cut (List.getElem?_eq_some_iff.1 hj).1]
    exact h3.tab.sep i j e f b hij (subB_get s2 hi) (subB_get s2 hj)
  · exact fun k ver hk => cutPl_ge hk
  · intro k e b hk hb
    rw [entBlk_cut (List.getElem?_eq_some_iff.1 hk).1] at hb
    exact h3.own k e b (subB_get s2 hk) hb
  · intro k ver x hk hx
    rw [cutPl_lt (by omega)]; exact h3.keep k ver x hk hx

theorem Den.sub {nt : Nat} {F : Fr} {st st' : St} {a : Act} {w : World} (h : Den nt F st a w) (hs : Sub F.n0 st st') : Den nt F st' a w := by
  obtain ⟨h1, h2, K, pl, h3, h4⟩ := h
  obtain ⟨s0, s1, s2, s3, s4⟩ := hs
  rw [sizeE_eq] at s0 s3 s4
  refine ⟨h1, h2, K, cutPl st'.bx.length pl, h3.cut (Nat.le_of_ble_eq_true s0) s2 s4, fun s g d hg hf => ?_⟩
  obtain ⟨rfl, hl⟩ := lowE_get s3 hg
  have := h4 s [] d (subE_get s1 hg) (.inl rfl)
  exact ⟨fun hh => low_rep d _ hl (this.1 hh), this.2⟩

/-! ### Code -/
/-- A round of a loop. -/
def Rnd (P : Program) (c : Code) (Q : Exit → Act → World → Prop) (a : Act) (w : World) : Prop :=
  ∀ (b : Frame) (k : List Item) (cs : List Frame), ∃ e a' w', Q e a' w' ∧ Arrives P (lone (b.at a (.code c :: .inLoop c :: k)) cs w) b k cs e a' w'

theorem Rnd.of_wp {P : Program} {c : Code} {Q : Exit → Act → World → Prop} {a : Act} {w : World} (h : c.wp P (Exit.then (Rnd P c Q) Q) a w) : Rnd P c Q a w := by
  intro b k cs
  obtain ⟨e, a₁, w₁, hq, harr⟩ := h b (.inLoop c :: k) cs
  cases e with
  | normal =>
    obtain ⟨e₂, a₂, w₂, hq₂, harr₂⟩ := hq b k cs
    exact ⟨e₂, a₂, w₂, hq₂, .of_steps (Steps.trans harr (.one step_inLoop)) harr₂⟩
  | exit id => exact ⟨_, a₁, w₁, hq, .pass (x := .inLoop c) rfl (fun _ _ => .inl (by simp)) harr⟩
  | goto l => exact ⟨_, a₁, w₁, hq, .pass (x := .inLoop c) rfl (fun _ _ => .inl (by simp)) harr⟩
  | ret => exact ⟨_, a₁, w₁, hq, .pass (x := .inLoop c) rfl (fun _ _ => .inl (by simp)) harr⟩
  | panic ch => exact ⟨_, a₁, w₁, hq, .pass (x := .inLoop c) rfl (fun _ _ => .inl (by simp)) harr⟩
  | outgrown => exact ⟨_, a₁, w₁, hq, .pass (x := .inLoop c) rfl (fun _ _ => .inl (by simp)) harr⟩

theorem Rnd.loop {P : Program} {c : Code} {Q : Exit → Act → World → Prop} {a : Act} {w : World} (h : Rnd P c Q a w) : (Code.loop c).wp P Q a w := by
  intro b k cs
  obtain ⟨e, a', w', hq, harr⟩ := h b k cs
  exact ⟨e, a', w', hq, .of_steps (.one step_loop) harr⟩

theorem some'_den {nt : Nat} {F : Fr} {R : Act → World → Prop} {st : St} (h : some' F.n0 (fun s => ∀ a w, Den nt F s a w → R a w) st) {a : Act} {w : World} (hd : Den nt F st a w) : R a w := by
  rcases h with h | ⟨s', h1, h2⟩
  · exact h a w hd
  · exact h2 a w (hd.sub h1)

theorem bO_bN {a b : Bool} (h : bO (bN a) b = true) : a = false ∨ b = true := by cases a <;> simp_all [bO, bN]

theorem run_sound {P : Program} {nt : Nat} (hm : P.follows .mixedOrders = true) {F : Fr} :
    ∀ (code : Code) (c : C) (K : Ex → St → Prop) (Q : Exit → Act → World → Prop) (st : St) (a : Act) (w : World), compC P nt code c = some c.bare → run (SpM P F.gt) F.gt F.n0 c K st → Den nt F st a w →
      (∀ e st a w, K e st → Den nt F st a w → Q (exO e) a w) → code.wp P Q a w
  | .skip, c, K, Q, st, a, w, hc, hr, hd, hQ => by
    cases c <;> simp [compC, C.bare] at hc
    exact wp_skip (hQ .nrm _ _ _ hr hd)
  | .label l, c, K, Q, st, a, w, hc, hr, hd, hQ => by
    cases c <;> simp [compC, C.bare] at hc
    exact wp_label (hQ .nrm _ _ _ hr hd)
  | .ret, c, K, Q, st, a, w, hc, hr, hd, hQ => by
    cases c <;> simp [compC, C.bare] at hc
    exact wp_ret (hQ .ret _ _ _ hr hd)
  | .exit id, c, K, Q, st, a, w, hc, hr, hd, hQ => by
    cases c <;> simp [compC, C.bare] at hc
    subst hc
    exact wp_exit (hQ (.exit id) _ _ _ hr hd)
  | .region id ops draw, c, K, Q, st, a, w, hc, hr, hd, hQ => by
    cases c <;> try (simp [compC] at hc; done)
    rename_i d' l' ks
    simp only [compC] at hc
    split at hc
    · rename_i l hl
      split at hc
      · rename_i hdr
        simp only [C.bare, Option.some.injEq, C.reg.injEq] at hc
        obtain ⟨rfl, rfl, _⟩ := hc
        simp only [run] at hr
        cases hp : plainB st.env with
        | false => rw [hp] at hr; exact hr.elim
        | true =>
          rw [hp] at hr
          simp only [ifB] at hr
          refine region_sound (R := regK ks K) (F := F) hm hl ?_ (plainB_ok hp) rfl (fun a w st h hd => hQ .nrm _ _ _ h (hd.keep ks)) hr hd
          rcases bO_bN hdr with h | h
          · exact .inl h
          · exact .inr (bA_iff.1 h)
      · cases hc
    · cases hc
  | .seq x y, c, K, Q, st, a, w, hc, hr, hd, hQ => by
    cases c <;> try (simp [compC] at hc; done)
    rename_i ca cb
    simp only [compC] at hc
    split at hc
    · rename_i x' y' hx hy
      simp only [C.bare, Option.some.injEq, C.seq.injEq] at hc
      obtain ⟨rfl, rfl⟩ := hc
      simp only [run] at hr
      refine wp_seq (run_sound hm x ca _ _ st a w hx hr hd fun e st' a' w' hk hd' => ?_)
      cases e with
      | nrm => exact run_sound hm y cb K Q st' a' w' hy hk hd' hQ
      | exit id => exact hQ (.exit id) _ _ _ hk hd'
      | ret => exact hQ .ret _ _ _ hk hd'
    · cases hc
  | .cond o x y, c, K, Q, st, a, w, hc, hr, hd, hQ => by
    cases c <;> try (simp [compC] at hc; done)
    rename_i co ca cb
    simp only [compC] at hc
    split at hc
    · rename_i o' x' y' ho hx hy
      simp only [C.bare, Option.some.injEq, C.ite.injEq] at hc
      obtain ⟨rfl, rfl, rfl⟩ := hc
      simp only [run] at hr
      obtain ⟨h1, h2, K', pl, h3, h4⟩ := hd
      cases he : evX st.env [] o' with
      | none => rw [he] at hr; exact hr.elim
      | some d =>
        rw [he] at hr
        cases d <;> simp only [iteR] at hr <;> try (exact hr.elim)
        rename_i t
        have := ev_ok (K := K') (pl := pl) ho (fun s _ => h4 s) (holds_nil a) he
        simp only [Rep] at this
        refine wp_cond_split this (fun ht => ?_) (fun ht => ?_)
        · exact run_sound hm x ca K Q st a w hx (hr.1 ht) ⟨h1, h2, K', pl, h3, h4⟩ hQ
        · exact run_sound hm y cb K Q st a w hy (hr.2 ht) ⟨h1, h2, K', pl, h3, h4⟩ hQ
    · cases hc
  | .block id x, c, K, Q, st, a, w, hc, hr, hd, hQ => by
    cases c <;> try (simp [compC] at hc; done)
    rename_i id' ca
    simp only [compC] at hc
    obtain ⟨x', hx, hx'⟩ := map_some hc
    simp only [C.bare, C.blk.injEq] at hx'
    obtain ⟨rfl, rfl⟩ := hx'
    simp only [run] at hr
    refine wp_block (run_sound hm x ca _ _ st a w hx hr hd fun e st' a' w' hk hd' => ?_)
    cases e with
    | nrm => exact hQ .nrm _ _ _ hk hd'
    | ret => exact hQ .ret _ _ _ hk hd'
    | exit j =>
      simp only [exO, Exit.inBlock]
      simp only [blkK] at hk
      by_cases hj : j = id
      · simp [hj] at hk ⊢; exact hQ .nrm _ _ _ hk hd'
      · simp [hj] at hk ⊢; exact hQ (.exit j) _ _ _ hk hd'
  | .loop x, c, K, Q, st, a, w, hc, hr, hd, hQ => by
    cases c <;> try (simp [compC] at hc; done)
    rename_i ca
    simp only [compC] at hc
    obtain ⟨x', hx, hx'⟩ := map_some hc
    simp only [C.bare, C.loop.injEq] at hx'
    subst hx'
    simp only [run] at hr
    refine Rnd.loop (some'_den (hr (fun s => ∀ a w, Den nt F s a w → Rnd P x Q a w) fun s hs a w hd => ?_) hd)
    refine Rnd.of_wp (run_sound hm x ca _ _ s a w hx hs hd fun e st' a' w' hk hd' => ?_)
    cases e with
    | nrm => exact some'_den hk hd'
    | exit id => exact hQ (.exit id) _ _ _ hk hd'
    | ret => exact hQ .ret _ _ _ hk hd'
  | .rangeFunc .., c, K, Q, st, a, w, hc, hr, hd, hQ => by simp [compC] at hc
  | .scope _, c, K, Q, st, a, w, hc, hr, hd, hQ => by simp [compC] at hc
  | .goto _, c, K, Q, st, a, w, hc, hr, hd, hQ => by simp [compC] at hc
  | .refuse _, c, K, Q, st, a, w, hc, hr, hd, hQ => by simp [compC] at hc

/-! ### A function -/
def resOne (tmps : Array Value) : ResultVar → Sem Value
  | .tmp t => pure (tmps.getD t undef)
  | .cell a t => do loadVar t (← asAddr (tmps.getD a undef))

theorem results_run {P : Program} {fn : Func} {rs : List R} (hr : compRs P fn.results.toList = some rs) {F : Fr} {K : Kn} {pl : Pl} {st : St} {a : Act} {w : World} (hI : Inv F K pl st.bx w) (hs : ∀ s, SlotOk K pl st.env a s)
    {l : List D} (hl : resL st rs = some l) : ∃ v, (results fn a.tmps).run P w = .ok v w ∧ Rep K pl (oneD l) v := by
  have key : ∀ (rv : List ResultVar) (rs : List R) (l : List D), compRs P rv = some rs → resL st rs = some l →
      ∃ vs : List Value, (rv.mapM (resOne a.tmps)).run P w = .ok vs w ∧ RepL K pl l vs := by
    intro rv
    induction rv with
    | nil =>
      intro rs l h1 h2
      simp [compRs] at h1; subst h1
      simp [resL] at h2; subst h2
      exact ⟨[], by simp, by simp [RepL]⟩
    | cons r rv ih =>
      intro rs l h1 h2
      simp only [compRs] at h1
      split at h1
      · rename_i r' rs' hr' hrs'
        cases h1
        simp only [resL] at h2
        split at h2
        · rename_i d l' hd hl'
          cases h2
          obtain ⟨vs, h3, h4⟩ := ih rs' l' hrs' hl'
          have hone : ∃ v, (resOne a.tmps r).run P w = .ok v w ∧ Rep K pl d v := by
            cases r with
            | tmp t =>
              simp [compR] at hr'; subst hr'
              simp only [resD] at hd
              exact ⟨_, rfl, rd_ok (hs t) (holds_nil a) hd⟩
            | cell s t =>
              simp only [compR] at hr'
              obtain ⟨n, hn, rfl⟩ := map_some hr'
              simp only [resD] at hd
              split at hd
              · rename_i k off hk
                split at hd
                · rename_i cl hcl
                  rw [entN_eq] at hcl
                  have h5 := rd_ok (hs s) (holds_nil a) hk
                  simp only [Rep] at h5
                  obtain ⟨b, h6, h7⟩ := h5
                  obtain ⟨b', T, cs, h8, h10, h11, h12, h13⟩ := hI.tab.ok k _ hcl
                  rw [h6] at h8; cases h8
                  have hr : w.rangeAt b 0 cs := range_of_prefix h11 (by simp)
                  obtain ⟨v, h14, h15⟩ := run_load_part hn h12 h13 hr hd
                  simp only [Nat.zero_add] at h14
                  refine ⟨v, ?_, h15⟩
                  simp only [resOne, h7]
                  simpa [Instr.loadAt, asAddr, Instr.sureAddr] using h14
                · cases hd
              · cases hd
          obtain ⟨v, h5, h6⟩ := hone
          refine ⟨v :: vs, ?_, by simp only [RepL]; exact ⟨v, vs, rfl, h6, h4⟩⟩
          rw [List.mapM_cons]
          simp only [Sem.run_bind, h5, Result.andThen_ok]
          rw [h3]
          simp
        · cases h2
      · cases h1
  obtain ⟨vs, h1, h2⟩ := key _ _ _ hr hl
  have hlen := h2.length
  refine ⟨if h : vs.length = 1 then vs[0] else .tuple vs.toArray, ?_, ?_⟩
  · have e : results fn a.tmps = (do let vs ← fn.results.mapM (resOne a.tmps); pure (if h : vs.size = 1 then vs[0] else .tuple vs)) := rfl
    rw [e, Array.mapM_eq_mapM_toList]
    simp [Sem.run_bind, h1]
  · rcases l with _ | ⟨d, _ | ⟨e, l⟩⟩
    · simp [RepL] at h2; subst h2
      simp [oneD, Rep, RepL]
    · simp only [RepL] at h2
      obtain ⟨v, r, rfl, h3, rfl⟩ := h2
      simpa [oneD] using h3
    · rw [dif_neg (by simp at hlen; omega)]
      simp only [oneD, Rep]
      exact ⟨vs, rfl, h2⟩

theorem env0_get {d : D} {g : G} {s : Nat} : ∀ {ds : List D} {n : Nat}, get (env0 n ds) s = some (g, d) → g = [] ∧ n ≤ s ∧ ds[s - n]? = some d
  | [], n, h => by simp [env0, get] at h
  | x :: ds, n, h => by
    simp only [env0, get] at h
    cases hns : n == s with
    | true =>
      simp [hns] at h
      obtain ⟨rfl, rfl⟩ := h
      have : n = s := by simpa using hns
      subst this
      simp
    | false =>
      simp [hns] at h
      obtain ⟨h1, h2, h3⟩ := env0_get h
      have : s - n = (s - (n + 1)) + 1 := by omega
      refine ⟨h1, by omega, ?_⟩
      rw [this]; simpa using h3

/-- What is handed back: this datum, over this memory, is that one, over that one. -/
def Rt (n0 : Nat) (bx1 : List Ent) (d1 d : D) (bx' : List Ent) : Prop := ∀ (F : Fr) (K : Kn) (pl : Pl) (w : World) (v : Value), F.n0 = n0 → Inv F K pl bx1 w → Rep K pl d1 v → ∃ K' pl', Inv F K' pl' bx' w ∧ Rep K' pl' d v

theorem SpM_of_run {P : Program} {gt : Nat → Option (List D)} (hm : P.follows .mixedOrders = true) {f : FuncId} {fn : Func} {c : C} {rs : List R} (hf : P.funcs[f]? = some fn) (hnm : (fn.name == "runtime.NumGoroutine") = false) (hc : (fn.body.bind fun code => compC P fn.ntmps code c) = some c.bare) (hr : compRs P fn.results.toList = some rs)
    {ds : List D} {d : D} {bx bx' : List Ent} {Ft : D → List Ent → Prop} (hn : ds.length ≤ fn.ntmps) (h : run (SpM P gt) gt bx.length c (retG rs Ft) ⟨env0 0 ds, bx⟩) (hfin : ∀ d1 bx1, Ft d1 bx1 → Rt bx.length bx1 d1 d bx') : SpM P gt f ds bx d bx' := by
  cases hb : fn.body with
  | none => rw [hb] at hc; cases hc
  | some code =>
    refine ⟨⟨fn, hf, hnm, by rw [hb]; rfl⟩, fun K pl w vs hmod hglob htab hrep => ?_⟩
    rw [hb] at hc
    refine calls_of_wp hf hb ?_
    have hlen := hrep.length
    have hsz : vs.size = ds.length := by simpa using hlen
    let F : Fr := ⟨Own pl bx, w, K, bx.length, pl, gt⟩
    have hI : Inv F K pl bx w := ⟨Chg.refl _ _, hmod, KLe.refl _, fun b o h => .inl h, htab, fun k e b hk hb => .inl ⟨k, e, hk, hb⟩, Nat.le_refl _, fun k ver x _ h => h, hglob⟩
    refine run_sound (F := F) hm code c _ _ _ _ _ hc h ?_ ?_
    · refine ⟨by simp; omega, rfl, K, pl, hI, fun s g d hg hf => ?_⟩
      obtain ⟨rfl, _, h1⟩ := env0_get hg
      refine ⟨fun _ => ?_, fun h => absurd (holds_nil _) h⟩
      obtain ⟨v, h2, h3⟩ := RepL.get s hrep (by simpa using h1)
      have hlt := (List.getElem?_eq_some_iff.1 h2).1
      have : ((vs ++ Array.replicate (fn.ntmps - vs.size) undef).getD s undef) = v := by
        rw [Array.getD_eq_getD_getElem?, Array.getElem?_append_left (by simpa using hlt)]
        have : vs[s]? = some v := by simpa using h2
        simp [this]
      simp only [this]; exact h3
    · intro e st a w' hk hd
      obtain ⟨h1, h2, K', pl', hI', hs⟩ := hd
      have fin : atRet Ft st.bx (resL st rs) → ∃ v, (results fn a.tmps).run P w' = .ok v w' ∧ (∃ v' K'' pl'', Ending.returned v = .returned v' ∧ Inv F K'' pl'' bx' w' ∧ Rep K'' pl'' d v') := by
        intro hk
        cases hl : resL st rs with
        | none => rw [hl] at hk; exact hk.elim
        | some l =>
          rw [hl] at hk
          obtain ⟨v, hrun, hrepv⟩ := results_run hr hI' hs hl
          obtain ⟨K2, pl2, h5, h6⟩ := hfin _ _ hk F K' pl' w' v rfl hI' hrepv
          exact ⟨v, hrun, v, K2, pl2, rfl, h5, h6⟩
      cases e with
      | exit id => exact hk.elim
      | nrm => exact ⟨h2, fin hk⟩
      | ret => exact ⟨h2, fin hk⟩

/-- All own rows in it are handed out; the rest of the own memory is forgotten. -/
theorem Rt.lend {bx1 : List Ent} {d1 d : D} {q : List Prop} {o : Bool} (h : lend bx1 d1 = some (q, o, d)) (hq : ∀ p ∈ q, p) : Rt 0 bx1 d1 d [] := by
  intro F K pl w v h0 hI hr
  refine ⟨lendK K pl bx1 w, pl0, ⟨hI.chg, lendK_mod hI.mod, hI.le.trans (lendK_le _ _ _ _), fun b o' hb => ?_, ⟨fun k e h => by simp at h, fun i j e f b _ h => by simp at h, fun _ _ _ => rfl⟩, fun k e b h => by simp at h, by rw [h0]; exact Nat.zero_le _, fun k ver x hk => by rw [h0] at hk; omega, hI.glob.mono (lendK_le _ _ _ _)⟩, (lend_ok hI.tab _ q o _ v h hq hr).1⟩
  unfold lendK at hb
  split at hb
  · rename_i o2 ho2
    cases hb
    exact hI.new b _ ho2
  · split at hb
    · rename_i hex
      obtain ⟨k, e, sz, ver, rows, h5, h6⟩ := hex
      exact .inr (hI.own k _ b h5 h6)
    · cases hb

theorem Rt.id {n0 : Nat} {bx : List Ent} {d : D} : Rt n0 bx d d bx := fun F K pl w v _ hI hr => ⟨K, pl, hI, hr⟩

/-- What comes behind is forgotten. -/
theorem Rt.cut {n0 : Nat} {bx bx' : List Ent} {d : D} (h0 : n0 ≤ bx'.length) (h1 : subB bx bx') (h2 : lowB bx'.length bx' = true) (h3 : low bx'.length d = true) : Rt n0 bx d d bx' :=
  fun F K pl w v hF hI hr => ⟨K, cutPl bx'.length pl, hI.cut (by rw [hF]; exact h0) h1 h2, low_rep d v h3 hr⟩

/-- Own rows are given up. -/
theorem Rt.frz {n0 : Nat} {bx bx' : List Ent} {d d' : D} {q : List Prop} (h : frz bx d = some (q, d', bx')) (hq : ∀ p ∈ q, p) : Rt n0 bx d d' bx' := fun F K pl w v _ hI hr => by
  obtain ⟨K', h1, h2, h3⟩ := frz_ok d h hq hI hr
  exact ⟨K', pl, h2, Rep.mono (KLe.refl _) (PLe.zero _) _ _ h3⟩

theorem Rt.trans {n0 : Nat} {bx1 bx2 bx3 : List Ent} {d1 d2 d3 : D} (h : Rt n0 bx1 d1 d2 bx2) (h' : Rt n0 bx2 d2 d3 bx3) : Rt n0 bx1 d1 d3 bx3 := fun F K pl w v hF hI hr => by
  obtain ⟨K', pl', h1, h2⟩ := h F K pl w v hF hI hr
  exact h' F K' pl' w v hF h1 h2

theorem retD_allP {R : D → Prop} {o : Option (List Prop × Bool × D)} (h : retD R o) : ∃ q b d, o = some (q, b, d) ∧ (∀ p ∈ q, p) ∧ R d := by
  cases o with
  | none => exact h.elim
  | some x =>
    obtain ⟨q, b, d⟩ := x
    obtain ⟨h1, h2⟩ := allP_split h
    exact ⟨q, b, d, rfl, h1, h2⟩
end Go.AM
