/- A region: in the text's order. -/
import Derived.Test.YtkcebadfgiknhaaCore14
set_option linter.all false
namespace Go.AM
open Go Go.RowKit

theorem guardO_some {dst : Option Nat} {og : Option G} {g : G} (h : guardO dst og = some g) : og = some g ∧ notInO g dst = true := by
  unfold guardO at h
  split at h
  · cases h
  · split at h
    · rename_i g' hn; cases h; exact ⟨rfl, hn⟩
    · cases h

theorem op_sound {P : Program} {nt i : Nat} {ops : Array Oper} {o : Oper} {o' : O} {R : St → Prop} {st : St} (hc : compO P nt ops o = some o') (hi : ops[i]? = some o)
    (hv : goGR (Sp P) R o' st (guardO o'.dst (guardP st.env o'.g))) :
    ∃ g d bx', guardO o'.dst (guardP st.env o'.g) = some g ∧ R ⟨putE o'.dst g d st.env, bx'⟩ ∧ OpOk P nt ops i o' g st.env st.bx d bx' ∧ (isEff o'.m = false → bx' = st.bx) := by
  obtain ⟨hm, hdst, hlt, hgd⟩ := compO_spec hc
  cases hgo : guardO o'.dst (guardP st.env o'.g) with
  | none => rw [hgo] at hv; exact hv.elim
  | some g =>
    rw [hgo] at hv
    simp only [goGR] at hv
    obtain ⟨hgp, hnot⟩ := guardO_some hgo
    -- a test that says no
    have hno : ∀ {B w0 K0 K pl w a} {d : D}, Inv B w0 K0 K pl st.bx w → a.tmps.size = nt → (∀ s ∈ msl o'.m ++ gsl g, SlotOk K pl st.env a s) → ¬ holds a g → ∀ (next : Act → World → Prop) (Q : Exit → Act → World → Prop),
        (∀ v w' K' pl', KLe K K' → PLe pl pl' → Inv B w0 K0 K' pl' st.bx w' → (holds a g → Rep K' pl' d v) → (¬ holds a g → v = undef) → next (a.put o'.dst v) w') → wpOp P ops Q i next a w := by
      intro B w0 K0 K pl w a d hI hsz hs hh next Q hn
      have hw := guard_ok (K := K) (pl := pl) (a := a) hgd hgp (fun s hs' => hs s (List.mem_append_right _ hs'))
      have hw' : ¬ Region.wanted o (yielded ops a.tmps) = true := fun h => hh (hw.1 h)
      simp only [wpOp, hi, hw', if_false, Bool.false_eq_true]
      rw [← hdst]
      exact hn undef w K pl (KLe.refl _) (PLe.refl _) hI (fun h => absurd h hh) (fun _ => rfl)
    have hres := m_sound (P := P) (g := g) (env := st.env) (bx := st.bx) (dst := o.dst) (pos := o.pos) (after := o.after) (guard := o.guard) hm
    have hoo : (⟨o.dst, o.op, o.type, o.pos, o.after, o.guard⟩ : Oper) = o := rfl
    rw [hoo] at hres
    cases hr : stepF o'.m g st.env st.bx with
    | bad => rw [hr] at hv; exact hv.elim
    | ok p d bx' =>
      rw [hr] at hv hres
      obtain ⟨hp, hR⟩ := allP_split hv
      have hbx := stepF_bx hr
      refine ⟨g, d, bx', rfl, hR, ?_, fun he => ?_⟩
      · intro B w0 K0 K pl w a hI hsz hs next Q hn
        by_cases hh : holds a g
        · have hw := guard_ok (K := K) (pl := pl) (a := a) hgd hgp (fun s hs' => hs s (List.mem_append_right _ hs'))
          have hp' := gob_all (hyps_ok hh (fun _ h => h) (fun s hs' => hs s (List.mem_append_right _ hs'))) hp
          obtain ⟨v, w', K', pl', hout, h1, h2, h3, h4⟩ := hres B w0 K0 K pl w a hI (fun s hs' => hs s (List.mem_append_left _ hs')) hh hp'
          simp only [wpOp, hi, hw.2 hh, if_true]
          left
          have hnx := hn v w' K' pl' h1 h2 h3 (fun _ => h4) (fun h => absurd hh h)
          rw [hdst] at hnx
          rcases hout with hrun | ⟨hrun, rfl⟩
          · simp only [Oper.wp, hrun, Oper.upon_value]; exact hnx
          · simp only [Oper.wp, hrun, Oper.upon_skip]; exact hnx
        · have hbx' : bx' = st.bx := by
            rcases hbx with h | ⟨h, _⟩
            · exact h
            · subst h; exact absurd (holds_nil a) hh
          subst hbx'
          exact hno hI hsz hs hh next Q hn
      · rcases hbx with h | ⟨_, h⟩
        · exact h
        · rw [he] at h; cases h
    | call p own f ds =>
      rw [hr] at hv hres
      obtain ⟨hp, d, hsp, hown, hR⟩ := allP_split hv
      refine ⟨g, d, st.bx, rfl, hR, ?_, fun _ => rfl⟩
      intro B w0 K0 K pl w a hI hsz hs next Q hn
      by_cases hh : holds a g
      · have hw := guard_ok (K := K) (pl := pl) (a := a) hgd hgp (fun s hs' => hs s (List.mem_append_right _ hs'))
        have hyp := hyps_ok hh (fun _ h => h) (fun s hs' => hs s (List.mem_append_right _ hs'))
        obtain ⟨vs, K', hrun, h1, h2, h3, h4⟩ := hres B w0 K0 K pl w a hI (fun s hs' => hs s (List.mem_append_left _ hs')) hh (gob_all hyp hp)
        simp only [wpOp, hi, hw.2 hh, if_true]
        left
        simp only [Oper.wp, hrun, Oper.upon_enter]
        refine (impP_all hsp hyp K' w vs h2 h3).mono ?_
        rintro e w' ⟨v, K'', rfl, h5, h6, h7, h8, h9⟩
        simp only
        rw [← hdst]
        cases own with
        | false =>
          have := h4 rfl; subst this
          exact hn v w' K'' pl h5 (PLe.refl _) (hI.called h5 h6 h7 h9) (fun _ => Rep.mono (KLe.refl _) (PLe.zero _) _ _ h8) (fun h => absurd hh h)
        | true =>
          refine hn v w' K pl (KLe.refl _) (PLe.refl _) (hI.called (KLe.refl _) (fun b o hb => ?_) (fun b o hb => .inl hb) h9) (fun _ => plain_any (hown rfl) h8) (fun h => absurd hh h)
          rw [h9.block b (Array.getElem?_eq_some_iff.1 (hI.mod _ _ hb)).1]; exact hI.mod b o hb
      · exact hno hI hsz hs hh next Q hn
    | row p l j off n =>
      rw [hr] at hv hres
      obtain ⟨hp, d, d', hd, hd', hR⟩ := allP_split hv
      refine ⟨g, d', st.bx, rfl, hR, ?_, fun _ => rfl⟩
      intro B w0 K0 K pl w a hI hsz hs next Q hn
      by_cases hh : holds a g
      · have hw := guard_ok (K := K) (pl := pl) (a := a) hgd hgp (fun s hs' => hs s (List.mem_append_right _ hs'))
        have hyp := hyps_ok hh (fun _ h => h) (fun s hs' => hs s (List.mem_append_right _ hs'))
        obtain ⟨v, hrun, h4⟩ := hres B w0 K0 K pl w a hI (fun s hs' => hs s (List.mem_append_left _ hs')) hh (gob_all hyp hp) d d' (impP_all hd hyp) hd'
        simp only [wpOp, hi, hw.2 hh, if_true]
        left
        simp only [Oper.wp, hrun, Oper.upon_value]
        rw [← hdst]
        exact hn v w K pl (KLe.refl _) (PLe.refl _) hI (fun _ => h4) (fun h => absurd hh h)
      · exact hno hI hsz hs hh next Q hn
    | arr p l j n =>
      rw [hr] at hv hres
      obtain ⟨hp, d, hd, hR⟩ := allP_split hv
      refine ⟨g, d, st.bx, rfl, hR, ?_, fun _ => rfl⟩
      intro B w0 K0 K pl w a hI hsz hs next Q hn
      by_cases hh : holds a g
      · have hw := guard_ok (K := K) (pl := pl) (a := a) hgd hgp (fun s hs' => hs s (List.mem_append_right _ hs'))
        have hyp := hyps_ok hh (fun _ h => h) (fun s hs' => hs s (List.mem_append_right _ hs'))
        obtain ⟨v, hrun, h4⟩ := hres B w0 K0 K pl w a hI (fun s hs' => hs s (List.mem_append_left _ hs')) hh (gob_all hyp hp) d (impP_all hd hyp)
        simp only [wpOp, hi, hw.2 hh, if_true]
        left
        simp only [Oper.wp, hrun, Oper.upon_value]
        rw [← hdst]
        exact hn v w K pl (KLe.refl _) (PLe.refl _) hI (fun _ => h4) (fun h => absurd hh h)
      · exact hno hI hsz hs hh next Q hn

/-- The frame and the world are as the state says. -/
def Den (nt : Nat) (B : Nat) (w0 : World) (K0 : Kn) (st : St) (a : Act) (w : World) : Prop :=
  a.tmps.size = nt ∧ a.defers = [] ∧ ∃ K pl, Inv B w0 K0 K pl st.bx w ∧ ∀ s, SlotOk K pl st.env a s

theorem put_defers (a : Act) (d : Option Tmp) (v : Value) : (a.put d v).defers = a.defers := by cases d <;> rfl

/-- A region in the text's order. -/
theorem ops_seq {P : Program} {nt : Nat} {ops : Array Oper} {Q : Exit → Act → World → Prop} {B : Nat} {w0 : World} {K0 : Kn} {R : St → Prop} (hQ : ∀ a w st, R st → Den nt B w0 K0 st a w → Q .normal a w) :
    ∀ (os : List Oper) (l : List O) (k : Nat) (st : St) (a : Act) (w : World), compOs P nt ops os = some l → (∀ j, os[j]? = ops[k + j]?) → runOps (Sp P) l R st → Den nt B w0 K0 st a w → wpOps P ops Q (List.range' k os.length) a w
  | [], l, k, st, a, w, hc, _, hr, hd => by
    simp [compOs] at hc; subst hc
    exact hQ a w st hr hd
  | o :: os, l, k, st, a, w, hc, hk, hr, hd => by
    simp only [compOs] at hc
    split at hc
    · rename_i o' l' ho hl
      cases hc
      simp only [runOps] at hr
      have hi : ops[k]? = some o := by simpa using (hk 0).symm
      obtain ⟨g, d, bx', hg, hR, hok, _⟩ := op_sound ho hi hr
      obtain ⟨hsz, hdf, K, pl, hI, hs⟩ := hd
      simp only [List.length_cons, List.range'_succ]
      rw [wpOps_cons]
      obtain ⟨_, hdst, hlt, _⟩ := compO_spec ho
      refine hok B w0 K0 K pl w a hI hsz (fun s _ => hs s) _ Q fun v w' K' pl' h1 h2 h3 h4 h5 => ?_
      refine ops_seq hQ os l' (k + 1) _ _ w' hl (fun j => by have := hk (j + 1); simpa [Nat.add_assoc, Nat.add_comm 1] using this) hR ⟨by rw [size_put]; exact hsz, by rw [put_defers]; exact hdf, K', pl', h3, fun s => ?_⟩
      exact ((hs s).mono h1 h2).put (guardO_some hg).2 (fun t ht => by rw [hsz]; exact hlt t (by rw [← hdst]; exact ht)) h4 h5
    · cases hc

/-! ### The order's facts, taken out of the text's walk -/
structure Trace (P : Program) (nt : Nat) (ops : Array Oper) (k : Nat) (l : List O) (R : St → Prop) (st : St) where
  env : Nat → Env
  gs : Nat → G
  ds : Nat → D
  bxs : Nat → List Ent
  env0 : env 0 = st.env
  bx0 : bxs 0 = st.bx
  last : R ⟨env l.length, bxs l.length⟩
  step : ∀ i o', l[i]? = some o' → guardO o'.dst (guardP (env i) o'.g) = some (gs i) ∧ env (i + 1) = putE o'.dst (gs i) (ds i) (env i) ∧ OpOk P nt ops (k + i) o' (gs i) (env i) (bxs i) (ds i) (bxs (i + 1)) ∧
    (isEff o'.m = false → bxs (i + 1) = bxs i)

theorem trace_of_run {P : Program} {nt : Nat} {ops : Array Oper} {R : St → Prop} : ∀ (os : List Oper) (l : List O) (k : Nat) (st : St), compOs P nt ops os = some l → (∀ j, os[j]? = ops[k + j]?) → runOps (Sp P) l R st → Nonempty (Trace P nt ops k l R st)
  | [], l, k, st, hc, _, hr => by
    simp [compOs] at hc; subst hc
    exact ⟨⟨fun _ => st.env, fun _ => [], fun _ => .any, fun _ => st.bx, rfl, rfl, hr, fun i o' h => by simp at h⟩⟩
  | o :: os, l, k, st, hc, hk, hr => by
    simp only [compOs] at hc
    split at hc
    · rename_i o' l' ho hl
      cases hc
      simp only [runOps] at hr
      have hi : ops[k]? = some o := by simpa using (hk 0).symm
      obtain ⟨g, d, bx', hg, hR, hok, heff⟩ := op_sound ho hi hr
      obtain ⟨T⟩ := trace_of_run os l' (k + 1) _ hl (fun j => by have := hk (j + 1); simpa [Nat.add_assoc, Nat.add_comm 1] using this) hR
      refine ⟨⟨fun | 0 => st.env | i + 1 => T.env i, fun | 0 => g | i + 1 => T.gs i, fun | 0 => d | i + 1 => T.ds i, fun | 0 => st.bx | i + 1 => T.bxs i, rfl, rfl, T.last, fun i o2 h => ?_⟩⟩
      cases i with
      | zero =>
        simp at h; subst h
        refine ⟨hg, T.env0, ?_, fun he => ?_⟩
        · have := T.bx0
          simp only at this ⊢
          rw [this]; exact hok
        · have := T.bx0
          simp only at this ⊢
          rw [this]; exact heff he
      | succ i =>
        have := T.step i o2 (by simpa using h)
        refine ⟨this.1, this.2.1, ?_, this.2.2.2⟩
        have e : k + (i + 1) = k + 1 + i := by omega
        rw [e]; exact this.2.2.1
    · cases hc
end Go.AM
