/- A region: in the text's order. -/
import Derived.Test.YtnjmjiajbgdnlaaA15
set_option linter.all false
namespace Go.AM
open Go Go.RowKit

theorem guardO_some {dst : Option Nat} {og : Option G} {g : G} (h : guardO dst og = some g) : og = some g ∧ notInO g dst = true := by
  unfold guardO at h
  split at h
  · cases h
  · split at h
    · rename_i g' hn; cases h; exact ⟨rfl, hn⟩
    · cases h

/-- What a result asks, with the datum, and the own memory behind it. -/
def Fits (P : Program) (gt : Nat → Option (List D)) (hs : List Prop) (bx : List Ent) (d : D) (bx' : List Ent) : Res → Prop
  | .bad => False
  | .ok p d0 bx0 => (∀ q ∈ gob hs p, q) ∧ d = d0 ∧ bx' = bx0
  | .call p eff f ds => (∀ q ∈ gob hs p, q) ∧ impP hs (SpM P gt f ds bx d bx') ∧ (eff = false → bx' = bx)
  | .row p l i off n => (∀ q ∈ gob hs p, q) ∧ (∃ d1, impP hs (l[i]? = some d1) ∧ partOf d1 off n = some d) ∧ bx' = bx
  | .arr p l i n => (∀ q ∈ gob hs p, q) ∧ impP hs (partD l i n = some d) ∧ bx' = bx
  | .ask p Q => (∀ q ∈ gob hs p, q) ∧ impP hs (Q d) ∧ bx' = bx
  | .put p Q d0 mk => (∀ q ∈ gob hs p, q) ∧ d = d0 ∧ ∃ l', impP hs (Q l') ∧ bx' = mk l'

theorem fits_of {P : Program} {gt : Nat → Option (List D)} {R : St → Prop} {hs : List Prop} {dst : Option Nat} {g : G} {st : St} : ∀ {r : Res}, goOnR (SpM P gt) R hs dst g st r → ∃ d bx', Fits P gt hs st.bx d bx' r ∧ R ⟨putE dst g d st.env, bx'⟩
  | .bad, h => h.elim
  | .ok p d bx, h => by obtain ⟨h1, h2⟩ := allP_split h; exact ⟨d, bx, ⟨h1, rfl, rfl⟩, h2⟩
  | .call p eff f ds, h => by obtain ⟨h1, d, bx', h2, h3, h4⟩ := allP_split h; exact ⟨d, bx', ⟨h1, h2, h3⟩, h4⟩
  | .row p l i off n, h => by obtain ⟨h1, d, d', h2, h3, h4⟩ := allP_split h; exact ⟨d', _, ⟨h1, ⟨d, h2, h3⟩, rfl⟩, h4⟩
  | .arr p l i n, h => by obtain ⟨h1, d, h2, h4⟩ := allP_split h; exact ⟨d, _, ⟨h1, h2, rfl⟩, h4⟩
  | .ask p Q, h => by obtain ⟨h1, d, h2, h4⟩ := allP_split h; exact ⟨d, _, ⟨h1, h2, rfl⟩, h4⟩
  | .put p Q d mk, h => by obtain ⟨h1, l', h2, h4⟩ := allP_split h; exact ⟨d, _, ⟨h1, rfl, l', h2, rfl⟩, h4⟩

theorem fits_bx {P : Program} {gt : Nat → Option (List D)} {hs : List Prop} {m : M} {g : G} {env : Env} {bx bx' : List Ent} {d : D} (h : Fits P gt hs bx d bx' (stepF gt m g env bx)) : bx' = bx ∨ (g = [] ∧ isEff m = true) := by
  cases hr : stepF gt m g env bx with
  | bad => rw [hr] at h; exact h.elim
  | ok p d0 bx0 => rw [hr] at h; obtain ⟨_, _, rfl⟩ := h; exact stepF_bx hr
  | call p eff f ds =>
    rw [hr] at h; obtain ⟨_, _, h⟩ := h
    cases eff with
    | false => exact .inl (h rfl)
    | true => exact .inr (stepF_call hr rfl)
  | row p l i off n => rw [hr] at h; exact .inl h.2.2
  | arr p l i n => rw [hr] at h; exact .inl h.2.2
  | ask p Q => rw [hr] at h; exact .inl h.2.2
  | put p Q d0 mk => exact .inr (stepF_put hr)

theorem fits_at {P : Program} {gt : Nat → Option (List D)} {hs : List Prop} {o : O} {g : G} {env : Env} {bx bx' bx2 : List Ent} {d : D} {l : List Nat} (hl : looks o = some l) (hf : fpOk o.fp o.m g env = true) (h : Fits P gt hs bx d bx' (stepF gt o.m g env bx)) (ha : Agr l bx bx2) :
    Fits P gt hs bx2 d bx2 (stepF gt o.m g env bx2) := by
  obtain ⟨he, hc⟩ := looks_noneff hl
  rw [stepF_look hl hf ha]
  cases hr : stepF gt o.m g env bx with
  | bad => rw [hr] at h; exact h.elim
  | ok p d0 bx0 => rw [hr] at h; exact ⟨h.1, h.2.1, rfl⟩
  | call p eff f ds => have := stepF_callM hr; rw [hc] at this; cases this
  | row p l i off n => rw [hr] at h; exact ⟨h.1, h.2.1, rfl⟩
  | arr p l i n => rw [hr] at h; exact ⟨h.1, h.2.1, rfl⟩
  | ask p Q => rw [hr] at h; exact ⟨h.1, h.2.1, rfl⟩
  | put p Q d0 mk => have := (stepF_put hr).2; rw [he] at this; cases this

theorem entN_setE {bx : List Ent} {k j : Nat} {e : Ent} (h : j ≠ k) : entN (setE bx k e) j = entN bx j := by
  rw [entN_eq, entN_eq, setE_eq, List.getElem?_set_ne (Ne.symm h)]

theorem fits_puts {P : Program} {gt : Nat → Option (List D)} {hs : List Prop} {o : O} {g : G} {env : Env} {bx bx' : List Ent} {d : D} {l : List Nat} (hl : puts o = some l) (hf : fpOk o.fp o.m g env = true) (h : Fits P gt hs bx d bx' (stepF gt o.m g env bx)) :
    ∀ k, k ∉ l → entN bx' k = entN bx k := by
  obtain ⟨dst, og, m, fp⟩ := o
  cases m <;> simp only [puts] at hl <;> first | (cases hl; done) | skip
  rename_i n a x
  subst hl
  simp only [fpOk, foot] at hf
  simp only [stepF] at h
  split at h
  · generalize evX env [] a = p at *
    generalize evX env [] x = q at *
    rcases p with _ | p
    · exact h.elim
    rcases q with _ | q
    · cases p <;> exact h.elim
    have key : ∀ {kk : Nat}, kk ∈ l → ∀ (e : Ent) k, k ∉ l → entN (setE bx kk e) k = entN bx k := fun hkk _ k hk => entN_setE (fun e => hk (e ▸ hkk))
    cases p <;> simp only [stepSt] at h <;> first | exact h.elim | skip
    case box k off =>
      have hk := allN_iff.1 hf k (by simp)
      split at h <;> first | exact h.elim | skip
      split at h <;> first | exact h.elim | skip
      split at h <;> first | exact h.elim | skip
      obtain ⟨_, _, rfl⟩ := h
      exact key hk _
    case boxi k off =>
      have hk := allN_iff.1 hf k (by simp)
      split at h <;> first | exact h.elim | skip
      split at h <;> first | exact h.elim | skip
      obtain ⟨_, _, _, _, rfl⟩ := h
      exact key hk _
    case elo k v s i off =>
      have hk := allN_iff.1 hf k (by simp)
      split at h <;> first | exact h.elim | skip
      split at h <;> first | exact h.elim | skip
      obtain ⟨_, _, _, _, rfl⟩ := h
      exact key hk _
  · exact h.elim

theorem ok_of_fits {P : Program} {gt : Nat → Option (List D)} {nt i : Nat} {ops : Array Oper} {o : Oper} {o' : O} {g : G} {env : Env} {bx bx' : List Ent} {d : D} (hc : compO P nt ops o = some o'.bare) (hi : ops[i]? = some o)
    (hg : guardO o'.dst (guardP env o'.g) = some g) (hf : Fits P gt (hyps env g g) bx d bx' (stepF gt o'.m g env bx)) : OpOk P gt nt ops i o' g env bx d bx' := by
  obtain ⟨hm, hdst, hlt, hgd⟩ := compO_spec hc
  obtain ⟨hgp, hnot⟩ := guardO_some hg
  -- a test that says no
  have hno : ∀ {F : Fr} {K pl w a} {d : D}, Inv F K pl bx w → a.tmps.size = nt → (∀ s ∈ msl o'.m ++ gsl g, SlotOk K pl env a s) → ¬ holds a g → ∀ (next : Act → World → Prop) (Q : Exit → Act → World → Prop),
      (∀ v w' K' pl', KLe K K' → PLe pl pl' → Inv F K' pl' bx w' → (holds a g → Rep K' pl' d v) → (¬ holds a g → v = undef) → next (a.put o'.dst v) w') → wpOp P ops Q i next a w := by
    intro F K pl w a d hI hsz hs hh next Q hn
    have hw := guard_ok (K := K) (pl := pl) (a := a) hgd hgp (fun s hs' => hs s (List.mem_append_right _ hs'))
    have hw' : ¬ Region.wanted o (yielded ops a.tmps) = true := fun h => hh (hw.1 h)
    simp only [wpOp, hi, hw', if_false, Bool.false_eq_true]
    rw [← hdst]
    exact hn undef w K pl (KLe.refl _) (PLe.refl _) hI (fun h => absurd h hh) (fun _ => rfl)
  have hres := m_sound (P := P) (gt := gt) (g := g) (env := env) (bx := bx) (dst := o.dst) (pos := o.pos) (after := o.after) (guard := o.guard) hm
  have hoo : (⟨o.dst, o.op, o.type, o.pos, o.after, o.guard⟩ : Oper) = o := rfl
  rw [hoo] at hres
  have hq : ∀ {K pl a}, (∀ s ∈ msl o'.m ++ gsl g, SlotOk K pl env a s) → holds a g → Region.wanted o (yielded ops a.tmps) = true ∧ ∀ p ∈ hyps env g g, p := fun {K pl a} hs hh =>
    ⟨(guard_ok (K := K) (pl := pl) (a := a) hgd hgp (fun s hs' => hs s (List.mem_append_right _ hs'))).2 hh, hyps_ok hh (fun _ h => h) (fun s hs' => hs s (List.mem_append_right _ hs'))⟩
  have hbad : g = [] → ∀ {a : Act}, holds a g := fun h a => by subst h; exact holds_nil a
  have hbx := fits_bx hf
  intro F K pl w a hF hI hsz hs next Q hn
  by_cases hh : holds a g
  case neg =>
    have hbx' : bx' = bx := by
      rcases hbx with h | ⟨h, _⟩
      · exact h
      · exact absurd (hbad h) hh
    subst hbx'
    exact hno hI hsz hs hh next Q hn
  case pos =>
    obtain ⟨hw, hyp⟩ := hq hs hh
    cases hr : stepF gt o'.m g env bx with
    | bad => rw [hr] at hf; exact hf.elim
    | ok p d0 bx0 =>
      rw [hr] at hf hres
      obtain ⟨hp, rfl, rfl⟩ := hf
      obtain ⟨v, w', K', pl', hout, h1, h2, h3, h4⟩ := hres F K pl w a hF hI (fun s hs' => hs s (List.mem_append_left _ hs')) hh (gob_all hyp hp)
      simp only [wpOp, hi, hw, if_true]
      left
      have hnx := hn v w' K' pl' h1 h2 h3 (fun _ => h4) (fun h => absurd hh h)
      rw [hdst] at hnx
      rcases hout with hrun | ⟨hrun, rfl⟩
      · simp only [Oper.wp, hrun, Oper.upon_value]; exact hnx
      · simp only [Oper.wp, hrun, Oper.upon_skip]; exact hnx
    | call p eff f ds =>
      rw [hr] at hf hres
      obtain ⟨hp, hsp, heff⟩ := hf
      obtain ⟨hok, hsp'⟩ := impP_all hsp hyp
      obtain ⟨vs, hrun, h3⟩ := hres F K pl w a hF hI (fun s hs' => hs s (List.mem_append_left _ hs')) hh (gob_all hyp hp) hok
      simp only [wpOp, hi, hw, if_true]
      left
      simp only [Oper.wp, hrun, Oper.upon_enter]
      subst hF
      refine (hsp' K pl w vs hI.mod hI.glob hI.tab h3).mono ?_
      rintro e w' ⟨v, K', pl', rfl, h5, h8⟩
      simp only
      rw [← hdst]
      obtain ⟨g1, g2, g3⟩ := hI.then h5
      exact hn v w' K' pl' g1 g2 g3 (fun _ => h8) (fun h => absurd hh h)
    | row p l j off n =>
      rw [hr] at hf hres
      obtain ⟨hp, ⟨d1, hd, hd'⟩, rfl⟩ := hf
      obtain ⟨v, hrun, h4⟩ := hres F K pl w a hF hI (fun s hs' => hs s (List.mem_append_left _ hs')) hh (gob_all hyp hp) d1 d (impP_all hd hyp) hd'
      simp only [wpOp, hi, hw, if_true]
      left
      simp only [Oper.wp, hrun, Oper.upon_value]
      rw [← hdst]
      exact hn v w K pl (KLe.refl _) (PLe.refl _) hI (fun _ => h4) (fun h => absurd hh h)
    | arr p l j n =>
      rw [hr] at hf hres
      obtain ⟨hp, hd, rfl⟩ := hf
      obtain ⟨v, hrun, h4⟩ := hres F K pl w a hF hI (fun s hs' => hs s (List.mem_append_left _ hs')) hh (gob_all hyp hp) d (impP_all hd hyp)
      simp only [wpOp, hi, hw, if_true]
      left
      simp only [Oper.wp, hrun, Oper.upon_value]
      rw [← hdst]
      exact hn v w K pl (KLe.refl _) (PLe.refl _) hI (fun _ => h4) (fun h => absurd hh h)
    | ask p Qd =>
      rw [hr] at hf hres
      obtain ⟨hp, hd, rfl⟩ := hf
      obtain ⟨v, hrun, h4⟩ := hres F K pl w a hF hI (fun s hs' => hs s (List.mem_append_left _ hs')) hh (gob_all hyp hp) d (impP_all hd hyp)
      simp only [wpOp, hi, hw, if_true]
      left
      simp only [Oper.wp, hrun, Oper.upon_value]
      rw [← hdst]
      exact hn v w K pl (KLe.refl _) (PLe.refl _) hI (fun _ => h4) (fun h => absurd hh h)
    | put p Qd d0 mk =>
      rw [hr] at hf hres
      obtain ⟨hp, rfl, l', hl', rfl⟩ := hf
      obtain ⟨v, w', K', pl', hout, h1, h2, h3, h4⟩ := hres F K pl w a hF hI (fun s hs' => hs s (List.mem_append_left _ hs')) hh (gob_all hyp hp) l' (impP_all hl' hyp)
      simp only [wpOp, hi, hw, if_true]
      left
      have hnx := hn v w' K' pl' h1 h2 h3 (fun _ => h4) (fun h => absurd hh h)
      rw [hdst] at hnx
      rcases hout with hrun | ⟨hrun, rfl⟩
      · simp only [Oper.wp, hrun, Oper.upon_value]; exact hnx
      · simp only [Oper.wp, hrun, Oper.upon_skip]; exact hnx

/-- What is known of an operation that has been gone through. -/
def StepOk (P : Program) (gt : Nat → Option (List D)) (nt : Nat) (ops : Array Oper) (i : Nat) (o' : O) (g : G) (env : Env) (bx : List Ent) (d : D) (bx' : List Ent) : Prop :=
  OpOk P gt nt ops i o' g env bx d bx' ∧ (isEff o'.m = false → bx' = bx) ∧ (∀ l, looks o' = some l → ∀ bx2, Agr l bx bx2 → OpOk P gt nt ops i o' g env bx2 d bx2) ∧ (∀ l, puts o' = some l → ∀ k, k ∉ l → entN bx' k = entN bx k)

theorem op_sound {P : Program} {gt : Nat → Option (List D)} {nt i : Nat} {ops : Array Oper} {o : Oper} {o' : O} {R : St → Prop} {st : St} (hc : compO P nt ops o = some o'.bare) (hi : ops[i]? = some o)
    (hv : goGR (SpM P gt) gt R o' st (guardO o'.dst (guardP st.env o'.g))) :
    ∃ g d bx', guardO o'.dst (guardP st.env o'.g) = some g ∧ R ⟨putE o'.dst g d st.env, bx'⟩ ∧ StepOk P gt nt ops i o' g st.env st.bx d bx' := by
  cases hgo : guardO o'.dst (guardP st.env o'.g) with
  | none => rw [hgo] at hv; exact hv.elim
  | some g =>
    rw [hgo] at hv
    simp only [goGR] at hv
    cases hfp : fpOk o'.fp o'.m g st.env with
    | false => rw [hfp] at hv; exact hv.elim
    | true =>
      rw [hfp] at hv
      obtain ⟨d, bx', hf, hR⟩ := fits_of (show goOnR (SpM P gt) R _ _ _ _ _ from hv)
      refine ⟨g, d, bx', rfl, hR, ok_of_fits hc hi hgo hf, fun he => ?_, fun l hl bx2 ha => ok_of_fits hc hi hgo (fits_at hl hfp hf ha), fun l hl => fits_puts hl hfp hf⟩
      rcases fits_bx hf with h | ⟨_, h⟩
      · exact h
      · rw [he] at h; cases h

/-- The frame and the world are as the state says. -/
def Den (nt : Nat) (F : Fr) (st : St) (a : Act) (w : World) : Prop :=
  a.tmps.size = nt ∧ a.defers = [] ∧ ∃ K pl, Inv F K pl st.bx w ∧ ∀ s, SlotOk K pl st.env a s

theorem put_defers (a : Act) (d : Option Tmp) (v : Value) : (a.put d v).defers = a.defers := by cases d <;> rfl

/-- A region in the text's order. -/
theorem ops_seq {P : Program} {nt : Nat} {ops : Array Oper} {Q : Exit → Act → World → Prop} {F : Fr} {R : St → Prop} (hQ : ∀ a w st, R st → Den nt F st a w → Q .normal a w) :
    ∀ (os : List Oper) (l : List O) (k : Nat) (st : St) (a : Act) (w : World), compOs P nt ops os = some (bareL l) → (∀ j, os[j]? = ops[k + j]?) → runOps (SpM P F.gt) F.gt l R st → Den nt F st a w → wpOps P ops Q (List.range' k os.length) a w
  | [], [], k, st, a, w, hc, _, hr, hd => hQ a w st hr hd
  | [], _ :: _, k, st, a, w, hc, _, hr, hd => by simp [compOs, bareL] at hc
  | o :: os, [], k, st, a, w, hc, _, hr, hd => by simp only [compOs, bareL] at hc; split at hc <;> simp at hc
  | o :: os, o' :: l', k, st, a, w, hc, hk, hr, hd => by
    simp only [compOs, bareL] at hc
    split at hc
    · rename_i ob lb ho hl
      simp only [Option.some.injEq, List.cons.injEq] at hc
      obtain ⟨rfl, rfl⟩ := hc
      simp only [runOps] at hr
      have hi : ops[k]? = some o := by simpa using (hk 0).symm
      obtain ⟨g, d, bx', hg, hR, hok, _⟩ := op_sound ho hi hr
      obtain ⟨hsz, hdf, K, pl, hI, hs⟩ := hd
      simp only [List.length_cons, List.range'_succ]
      rw [wpOps_cons]
      obtain ⟨_, hdst, hlt, _⟩ := compO_spec ho
      refine hok F K pl w a rfl hI hsz (fun s _ => hs s) _ Q fun v w' K' pl' h1 h2 h3 h4 h5 => ?_
      refine ops_seq hQ os l' (k + 1) _ _ w' hl (fun j => by have := hk (j + 1); simpa [Nat.add_assoc, Nat.add_comm 1] using this) hR ⟨by rw [size_put]; exact hsz, by rw [put_defers]; exact hdf, K', pl', h3, fun s => ?_⟩
      exact ((hs s).mono h1 h2).put (guardO_some hg).2 (fun t ht => by rw [hsz]; exact hlt t (by rw [← hdst]; exact ht)) h4 h5
    · cases hc

/-! ### The order's facts, taken out of the text's walk -/
structure Trace (P : Program) (gt : Nat → Option (List D)) (nt : Nat) (ops : Array Oper) (k : Nat) (l : List O) (R : St → Prop) (st : St) where
  env : Nat → Env
  gs : Nat → G
  ds : Nat → D
  bxs : Nat → List Ent
  env0 : env 0 = st.env
  bx0 : bxs 0 = st.bx
  last : R ⟨env l.length, bxs l.length⟩
  step : ∀ i o', l[i]? = some o' → guardO o'.dst (guardP (env i) o'.g) = some (gs i) ∧ env (i + 1) = putE o'.dst (gs i) (ds i) (env i) ∧ StepOk P gt nt ops (k + i) o' (gs i) (env i) (bxs i) (ds i) (bxs (i + 1))

theorem trace_of_run {P : Program} {gt : Nat → Option (List D)} {nt : Nat} {ops : Array Oper} {R : St → Prop} : ∀ (os : List Oper) (l : List O) (k : Nat) (st : St), compOs P nt ops os = some (bareL l) → (∀ j, os[j]? = ops[k + j]?) → runOps (SpM P gt) gt l R st → Nonempty (Trace P gt nt ops k l R st)
  | [], _ :: _, k, st, hc, _, hr => by simp [compOs, bareL] at hc
  | o :: os, [], k, st, hc, _, hr => by simp only [compOs, bareL] at hc; split at hc <;> simp at hc
  | [], [], k, st, hc, _, hr => by
    exact ⟨⟨fun _ => st.env, fun _ => [], fun _ => .any, fun _ => st.bx, rfl, rfl, hr, fun i o' h => by simp at h⟩⟩
  | o :: os, o' :: l', k, st, hc, hk, hr => by
    simp only [compOs, bareL] at hc
    split at hc
    · rename_i ob lb ho hl
      simp only [Option.some.injEq, List.cons.injEq] at hc
      obtain ⟨rfl, rfl⟩ := hc
      simp only [runOps] at hr
      have hi : ops[k]? = some o := by simpa using (hk 0).symm
      obtain ⟨g, d, bx', hg, hR, hok⟩ := op_sound ho hi hr
      obtain ⟨T⟩ := trace_of_run os l' (k + 1) _ hl (fun j => by have := hk (j + 1); simpa [Nat.add_assoc, Nat.add_comm 1] using this) hR
      refine ⟨⟨fun | 0 => st.env | i + 1 => T.env i, fun | 0 => g | i + 1 => T.gs i, fun | 0 => d | i + 1 => T.ds i, fun | 0 => st.bx | i + 1 => T.bxs i, rfl, rfl, T.last, fun i o2 h => ?_⟩⟩
      cases i with
      | zero =>
        simp at h; subst h
        refine ⟨hg, T.env0, ?_⟩
        have := T.bx0
        simp only at this ⊢
        rw [this]; exact hok
      | succ i =>
        have := T.step i o2 (by simpa using h)
        refine ⟨this.1, this.2.1, ?_⟩
        have e : k + (i + 1) = k + 1 + i := by omega
        rw [e]; exact this.2.2
    · cases hc
end Go.AM
