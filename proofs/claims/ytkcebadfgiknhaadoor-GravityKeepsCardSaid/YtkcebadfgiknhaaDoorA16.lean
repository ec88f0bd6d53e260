/- A region: in the text's order. -/
import Derived.Test.YtkcebadfgiknhaaDoorA15
set_option linter.all false
namespace Go.AM
open Go Go.RowKit

theorem guardO_some {dst : Option Nat} {og : Option G} {g : G} (h : guardO dst og = some g) : og = some g ∧ notInO g dst = true := by
  unfold guardO at h
  split at h
  · cases h
  · split at h
    · rename_i g' hn; cases h; exact ⟨rfl, hn⟩
    · cases h

theorem op_sound {P : Program} {gt : Nat → Option (List D)} {nt i : Nat} {ops : Array Oper} {o : Oper} {o' : O} {R : St → Prop} {st : St} (hc : compO P nt ops o = some o'.bare) (hi : ops[i]? = some o)
    (hv : goGR (SpM P gt) gt R o' st (guardO o'.dst (guardP st.env o'.g))) :
    ∃ g d bx', guardO o'.dst (guardP st.env o'.g) = some g ∧ R ⟨putE o'.dst g d st.env, bx'⟩ ∧ OpOk P gt nt ops i o' g st.env st.bx d bx' ∧ (isEff o'.m = false → bx' = st.bx) := by
  obtain ⟨hm, hdst, hlt, hgd⟩ := compO_spec hc
  cases hgo : guardO o'.dst (guardP st.env o'.g) with
  | none => rw [hgo] at hv; exact hv.elim
  | some g =>
    rw [hgo] at hv
    simp only [goGR] at hv
    obtain ⟨hgp, hnot⟩ := guardO_some hgo
    -- a test that says no
    have hno : ∀ {F : Fr} {K pl w a} {d : D}, Inv F K pl st.bx w → a.tmps.size = nt → (∀ s ∈ msl o'.m ++ gsl g, SlotOk K pl st.env a s) → ¬ holds a g → ∀ (next : Act → World → Prop) (Q : Exit → Act → World → Prop),
        (∀ v w' K' pl', KLe K K' → PLe pl pl' → Inv F K' pl' st.bx w' → (holds a g → Rep K' pl' d v) → (¬ holds a g → v = undef) → next (a.put o'.dst v) w') → wpOp P ops Q i next a w := by
      intro F K pl w a d hI hsz hs hh next Q hn
      have hw := guard_ok (K := K) (pl := pl) (a := a) hgd hgp (fun s hs' => hs s (List.mem_append_right _ hs'))
      have hw' : ¬ Region.wanted o (yielded ops a.tmps) = true := fun h => hh (hw.1 h)
      simp only [wpOp, hi, hw', if_false, Bool.false_eq_true]
      rw [← hdst]
      exact hn undef w K pl (KLe.refl _) (PLe.refl _) hI (fun h => absurd h hh) (fun _ => rfl)
    have hres := m_sound (P := P) (gt := gt) (g := g) (env := st.env) (bx := st.bx) (dst := o.dst) (pos := o.pos) (after := o.after) (guard := o.guard) hm
    have hoo : (⟨o.dst, o.op, o.type, o.pos, o.after, o.guard⟩ : Oper) = o := rfl
    rw [hoo] at hres
    have hq : ∀ {K pl a}, (∀ s ∈ msl o'.m ++ gsl g, SlotOk K pl st.env a s) → holds a g → Region.wanted o (yielded ops a.tmps) = true ∧ ∀ p ∈ hyps st.env g g, p := fun {K pl a} hs hh =>
      ⟨(guard_ok (K := K) (pl := pl) (a := a) hgd hgp (fun s hs' => hs s (List.mem_append_right _ hs'))).2 hh, hyps_ok hh (fun _ h => h) (fun s hs' => hs s (List.mem_append_right _ hs'))⟩
    have hbad : g = [] → ∀ {a : Act}, holds a g := fun h a => by subst h; exact holds_nil a
    cases hr : stepF gt o'.m g st.env st.bx with
    | bad => rw [hr] at hv; exact hv.elim
    | ok p d bx' =>
      rw [hr] at hv hres
      obtain ⟨hp, hR⟩ := allP_split hv
      have hbx := stepF_bx hr
      refine ⟨g, d, bx', rfl, hR, ?_, fun he => ?_⟩
      · intro F K pl w a hF hI hsz hs next Q hn
        by_cases hh : holds a g
        · obtain ⟨hw, hyp⟩ := hq hs hh
          obtain ⟨v, w', K', pl', hout, h1, h2, h3, h4⟩ := hres F K pl w a hF hI (fun s hs' => hs s (List.mem_append_left _ hs')) hh (gob_all hyp hp)
          simp only [wpOp, hi, hw, if_true]
          left
          have hnx := hn v w' K' pl' h1 h2 h3 (fun _ => h4) (fun h => absurd hh h)
          rw [hdst] at hnx
          rcases hout with hrun | ⟨hrun, rfl⟩
          · simp only [Oper.wp, hrun, Oper.upon_value]; exact hnx
          · simp only [Oper.wp, hrun, Oper.upon_skip]; exact hnx
        · have hbx' : bx' = st.bx := by
            rcases hbx with h | ⟨h, _⟩
            · exact h
            · exact absurd (hbad h) hh
          subst hbx'
          exact hno hI hsz hs hh next Q hn
      · rcases hbx with h | ⟨_, h⟩
        · exact h
        · rw [he] at h; cases h
    | call p eff f ds =>
      rw [hr] at hv hres
      obtain ⟨hp, d, bx', hsp, heff, hR⟩ := allP_split hv
      have hcl := stepF_call hr
      refine ⟨g, d, bx', rfl, hR, ?_, fun he => ?_⟩
      · intro F K pl w a hF hI hsz hs next Q hn
        by_cases hh : holds a g
        · obtain ⟨hw, hyp⟩ := hq hs hh
          obtain ⟨hok, hsp'⟩ := impP_all hsp hyp
          obtain ⟨vs, hrun, h3⟩ := hres F K pl w a hF hI (fun s hs' => hs s (List.mem_append_left _ hs')) hh (gob_all hyp hp) hok
          simp only [wpOp, hi, hw, if_true]
          left
          simp only [Oper.wp, hrun, Oper.upon_enter]
          subst hF
          refine (hsp' K pl w vs hI.mod hI.glob hI.tab h3).mono ?_
          rintro e w' ⟨v, K', pl', rfl, h5, h8⟩
          simp only
          rw [← hdst]
          obtain ⟨g1, g2, g3⟩ := hI.then h5
          exact hn v w' K' pl' g1 g2 g3 (fun _ => h8) (fun h => absurd hh h)
        · have hbx' : bx' = st.bx := by
            cases eff with
            | false => exact heff rfl
            | true => exact absurd (hbad (hcl rfl).1) hh
          subst hbx'
          exact hno hI hsz hs hh next Q hn
      · cases eff with
        | false => exact heff rfl
        | true => have := (hcl rfl).2; rw [he] at this; cases this
    | row p l j off n =>
      rw [hr] at hv hres
      obtain ⟨hp, d, d', hd, hd', hR⟩ := allP_split hv
      refine ⟨g, d', st.bx, rfl, hR, ?_, fun _ => rfl⟩
      intro F K pl w a hF hI hsz hs next Q hn
      by_cases hh : holds a g
      · obtain ⟨hw, hyp⟩ := hq hs hh
        obtain ⟨v, hrun, h4⟩ := hres F K pl w a hF hI (fun s hs' => hs s (List.mem_append_left _ hs')) hh (gob_all hyp hp) d d' (impP_all hd hyp) hd'
        simp only [wpOp, hi, hw, if_true]
        left
        simp only [Oper.wp, hrun, Oper.upon_value]
        rw [← hdst]
        exact hn v w K pl (KLe.refl _) (PLe.refl _) hI (fun _ => h4) (fun h => absurd hh h)
      · exact hno hI hsz hs hh next Q hn
    | arr p l j n =>
      rw [hr] at hv hres
      obtain ⟨hp, d, hd, hR⟩ := allP_split hv
      refine ⟨g, d, st.bx, rfl, hR, ?_, fun _ => rfl⟩
      intro F K pl w a hF hI hsz hs next Q hn
      by_cases hh : holds a g
      · obtain ⟨hw, hyp⟩ := hq hs hh
        obtain ⟨v, hrun, h4⟩ := hres F K pl w a hF hI (fun s hs' => hs s (List.mem_append_left _ hs')) hh (gob_all hyp hp) d (impP_all hd hyp)
        simp only [wpOp, hi, hw, if_true]
        left
        simp only [Oper.wp, hrun, Oper.upon_value]
        rw [← hdst]
        exact hn v w K pl (KLe.refl _) (PLe.refl _) hI (fun _ => h4) (fun h => absurd hh h)
      · exact hno hI hsz hs hh next Q hn
    | ask p Qd =>
      rw [hr] at hv hres
      obtain ⟨hp, d, hd, hR⟩ := allP_split hv
      refine ⟨g, d, st.bx, rfl, hR, ?_, fun _ => rfl⟩
      intro F K pl w a hF hI hsz hs next Q hn
      by_cases hh : holds a g
      · obtain ⟨hw, hyp⟩ := hq hs hh
        obtain ⟨v, hrun, h4⟩ := hres F K pl w a hF hI (fun s hs' => hs s (List.mem_append_left _ hs')) hh (gob_all hyp hp) d (impP_all hd hyp)
        simp only [wpOp, hi, hw, if_true]
        left
        simp only [Oper.wp, hrun, Oper.upon_value]
        rw [← hdst]
        exact hn v w K pl (KLe.refl _) (PLe.refl _) hI (fun _ => h4) (fun h => absurd hh h)
      · exact hno hI hsz hs hh next Q hn
    | put p Qd d mk =>
      rw [hr] at hv hres
      obtain ⟨hp, l', hl', hR⟩ := allP_split hv
      obtain ⟨hg0, heff⟩ := stepF_put hr
      refine ⟨g, d, mk l', rfl, hR, ?_, fun he => by rw [he] at heff; cases heff⟩
      intro F K pl w a hF hI hsz hs next Q hn
      have hh : holds a g := hbad hg0
      obtain ⟨hw, hyp⟩ := hq hs hh
      obtain ⟨v, w', K', pl', hout, h1, h2, h3, h4⟩ := hres F K pl w a hF hI (fun s hs' => hs s (List.mem_append_left _ hs')) hh (gob_all hyp hp) l' (impP_all hl' hyp)
      simp only [wpOp, hi, hw, if_true]
      left
      have hnx := hn v w' K' pl' h1 h2 h3 (fun _ => h4) (fun h => absurd hh h)
      rw [hdst] at hnx
      rcases hout with hrun | ⟨hrun, rfl⟩
      · simp only [Oper.wp, hrun, Oper.upon_value]; exact hnx
      · simp only [Oper.wp, hrun, Oper.upon_skip]; exact hnx

/-- The frame and the world are as the state says. -/
def Den (nt : Nat) (F : Fr) (st : St) (a : Act) (w : World) : Prop :=
  a.tmps.size = nt ∧ a.defers = [] ∧ ∃ K pl, Inv F K pl st.bx w ∧ ∀ s, SlotOk K pl st.env a s

theorem put_defers (a : Act) (d : Option Tmp) (v : Value) : (a.put d v).defers = a.defers := by cases d <;> rfl

/-- A region in the text's order. -/
theorem ops_seq {P : Program} {nt : Nat} {ops : Array Oper} {Q : Exit → Act → World → Prop} {F : Fr} {R : St → Prop} (hQ : ∀ a w st, R st → Den nt F st a w → Q .normal a w) :
    ∀ (os : List Oper) (l : List O) (k : Nat) (st : St) (a : Act) (w : World), compOs P nt ops os = some (bareL l) → (∀ j, os[j]? = ops[k + j]?) → runOps (SpM P F.gt) F.gt l R st → Den nt F st a w → wpOps P ops Q (List.range' k os.length) a w
  | [], [], k, st, a, w, hc, _, hr, hd => hQ a w st hr hd
  | [], _ :: _, k, st, a, w, hc, _, hr, hd => by simp [compOs, bareL] at hc
  | o :: os, [], k, st, a, w, hc, _, hr, hd => by simp only [compOs, bareL] at hc; split at hc <;> simp at hc
  | o :: os, o' :: l', k, st, a, w, hc, hk, hr, hd => by
    simp only [compOs, bareL] at hc
    split at hc
    · rename_i ob lb ho hl
      simp only [Option.some.injEq, List.cons.injEq] at hc
      obtain ⟨rfl, rfl⟩ := hc
      simp only [runOps] at hr
      have hi : ops[k]? = some o := by simpa using (hk 0).symm
      obtain ⟨g, d, bx', hg, hR, hok, _⟩ := op_sound ho hi hr
      obtain ⟨hsz, hdf, K, pl, hI, hs⟩ := hd
      simp only [List.length_cons, List.range'_succ]
      rw [wpOps_cons]
      obtain ⟨_, hdst, hlt, _⟩ := compO_spec ho
      refine hok F K pl w a rfl hI hsz (fun s _ => hs s) _ Q fun v w' K' pl' h1 h2 h3 h4 h5 => ?_
      refine ops_seq hQ os l' (k + 1) _ _ w' hl (fun j => by have := hk (j + 1); simpa [Nat.add_assoc, Nat.add_comm 1] using this) hR ⟨by rw [size_put]; exact hsz, by rw [put_defers]; exact hdf, K', pl', h3, fun s => ?_⟩
      exact ((hs s).mono h1 h2).put (guardO_some hg).2 (fun t ht => by rw [hsz]; exact hlt t (by rw [← hdst]; exact ht)) h4 h5
    · cases hc

/-! ### The order's facts, taken out of the text's walk -/
structure Trace (P : Program) (gt : Nat → Option (List D)) (nt : Nat) (ops : Array Oper) (k : Nat) (l : List O) (R : St → Prop) (st : St) where
  env : Nat → Env
  gs : Nat → G
  ds : Nat → D
  bxs : Nat → List Ent
  env0 : env 0 = st.env
  bx0 : bxs 0 = st.bx
  last : R ⟨env l.length, bxs l.length⟩
  step : ∀ i o', l[i]? = some o' → guardO o'.dst (guardP (env i) o'.g) = some (gs i) ∧ env (i + 1) = putE o'.dst (gs i) (ds i) (env i) ∧ OpOk P gt nt ops (k + i) o' (gs i) (env i) (bxs i) (ds i) (bxs (i + 1)) ∧
    (isEff o'.m = false → bxs (i + 1) = bxs i)

theorem trace_of_run {P : Program} {gt : Nat → Option (List D)} {nt : Nat} {ops : Array Oper} {R : St → Prop} : ∀ (os : List Oper) (l : List O) (k : Nat) (st : St), compOs P nt ops os = some (bareL l) → (∀ j, os[j]? = ops[k + j]?) → runOps (SpM P gt) gt l R st → Nonempty (Trace P gt nt ops k l R st)
  | [], _ :: _, k, st, hc, _, hr => by simp [compOs, bareL] at hc
  | o :: os, [], k, st, hc, _, hr => by simp only [compOs, bareL] at hc; split at hc <;> simp at hc
  | [], [], k, st, hc, _, hr => by
    exact ⟨⟨fun _ => st.env, fun _ => [], fun _ => .any, fun _ => st.bx, rfl, rfl, hr, fun i o' h => by simp at h⟩⟩
  | o :: os, o' :: l', k, st, hc, hk, hr => by
    simp only [compOs, bareL] at hc
    split at hc
    · rename_i ob lb ho hl
      simp only [Option.some.injEq, List.cons.injEq] at hc
      obtain ⟨rfl, rfl⟩ := hc
      simp only [runOps] at hr
      have hi : ops[k]? = some o := by simpa using (hk 0).symm
      obtain ⟨g, d, bx', hg, hR, hok, heff⟩ := op_sound ho hi hr
      obtain ⟨T⟩ := trace_of_run os l' (k + 1) _ hl (fun j => by have := hk (j + 1); simpa [Nat.add_assoc, Nat.add_comm 1] using this) hR
      refine ⟨⟨fun | 0 => st.env | i + 1 => T.env i, fun | 0 => g | i + 1 => T.gs i, fun | 0 => d | i + 1 => T.ds i, fun | 0 => st.bx | i + 1 => T.bxs i, rfl, rfl, T.last, fun i o2 h => ?_⟩⟩
      cases i with
      | zero =>
        simp at h; subst h
        refine ⟨hg, T.env0, ?_, fun he => ?_⟩
        · have := T.bx0
          simp only at this ⊢
          rw [this]; exact hok
        · have := T.bx0
          simp only at this ⊢
          rw [this]; exact heff he
      | succ i =>
        have := T.step i o2 (by simpa using h)
        refine ⟨this.1, this.2.1, ?_, this.2.2.2⟩
        have e : k + (i + 1) = k + 1 + i := by omega
        rw [e]; exact this.2.2.1
    · cases hc
end Go.AM
