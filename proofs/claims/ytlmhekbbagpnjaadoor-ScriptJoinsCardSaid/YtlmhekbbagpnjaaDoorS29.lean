
/- Chapter 63: how long an argument may be. -/
import Derived.Test.YtlmhekbbagpnjaaDoorS20
import Derived.Test.YtlmhekbbagpnjaaDoorS19
import Derived.SizedLaws
set_option linter.all false
set_option maxRecDepth 100000
namespace Go.AM
open Go Go.Proofs Go.RowKit

/-- An argument's sizes. -/
structure ArgOk (l : List Cm) : Prop where
  len : l.length * 64 ≤ 140737488351232
  words : ∀ c ∈ l, c.words.length ≤ maxLen
theorem short_pr {l : List Cm} (h : shortL l = true) : (∀ c ∈ l, PrOk c) ∧ l.length ≤ 50 := by
  unfold shortL at h
  simp only [Bool.and_eq_true, decide_eq_true_eq, List.all_eq_true] at h
  refine ⟨fun c hc => ?_, h.1⟩
  have h2 := h.2 c hc
  unfold shortC at h2
  simp only [Bool.and_eq_true, decide_eq_true_eq, List.all_eq_true] at h2
  obtain ⟨⟨h3, h4⟩, h5⟩ := h2
  refine ⟨⟨by omega, by omega, fun w hw => by have := h5 w hw; omega⟩, ?_⟩
  cases hw : c.words with
  | nil => simp
  | cons w r => have := h5 w (by rw [hw]; simp); simp; omega
theorem sp_of_Short {l : List Cm} (h : ArgOk l) : TSp 14 [.ls 4 (cL l)] (.bool (shortL l)) := sp_ref63_Short (by have := h.len; unfold maxLen; omega) h.words
end Go.AM
namespace Go.Proofs.YtlmhekbbagpnjaaDoor
open Go.ChangeShapes Go.WideShapes Go.ChangeAt Go.RowKit Go.Joins Go.AM

theorem sh_cmd {n : Nat} {d : D} (h : Sh Tryd.prog (n + 4) 42 d) : ∃ c : Cm, c.words.length ≤ maxLen ∧ d = cmD c := by
  obtain ⟨cs, rfl, hc⟩ := sh_fs (ts := [3, 3, 39, 40]) (by kernel_rfl) h
  obtain ⟨_, _, rfl, h0, _, _, rfl, h1, _, _, rfl, h2, _, _, rfl, h3, rfl⟩ := hc
  obtain ⟨a, rfl, _⟩ := shC_int (k := .i64) (by kernel_rfl) h0
  obtain ⟨b, rfl, _⟩ := shC_int (k := .i64) (by kernel_rfl) h1
  obtain ⟨ns, rfl, _, _⟩ := shC_slice (g := fun n => D.int .i64 n) (Q := fun _ => True) Tryd.underlying39 h2 fun r hr => by
    obtain ⟨m, rfl, _⟩ := sh_int Tryd.underlying2 hr
    exact ⟨m, trivial, rfl⟩
  obtain ⟨ws, rfl, hl, _⟩ := shC_slice (g := fun s => D.str s) (Q := fun _ => True) Tryd.underlying40 h3 fun r hr => by
    obtain ⟨m, rfl, _⟩ := sh_str (by kernel_rfl) hr
    exact ⟨m, trivial, rfl⟩
  refine ⟨⟨a, b, ns, ws⟩, hl, ?_⟩
  have e1 : Tryd.prog.cellsOf 2 = 1 := by kernel_rfl
  have e2 : Tryd.prog.cellsOf 9 = 1 := by kernel_rfl
  rw [e1, e2]; rfl
theorem sh_cmds {n : Nat} {d : D} (h : Sh Tryd.prog (n + 5) 23 d) : ∃ l : List Cm, (∀ c ∈ l, c.words.length ≤ maxLen) ∧ d = .ls 4 (cL l) := by
  obtain ⟨l, rfl, hl, hq⟩ := sh_slice (g := cmD) (Q := fun c => c.words.length ≤ maxLen) Tryd.underlying23 h fun r hr => sh_cmd hr
  have e : Tryd.prog.cellsOf 42 = 4 := by kernel_rfl
  rw [e]
  exact ⟨l, hq, rfl⟩

/-- Slices that came in are no longer than the reach lets. -/
def LenB (P : Program) (ts : List TypeId) (dl : List D) : Prop := ∀ (j : Nat) t e sz l, ts[j]? = some t → P.underlying t = some (.slice e) → dl[j]? = some (.ls sz l) → l.length * P.bytesOf e ≤ reachBytes
section
variable {H : Type} {enc : TypeId × Value → H} {P : Program} {w : World} {base : Nat} {spare : Nat → Bool} {held : Bool}
theorem trod_len {t e : TypeId} {v : Value} {d : DataW H} {ps : List MemPlace} (hu : P.underlying t = some (.slice e)) (h : DataW.Trod enc P w base spare held t v d ps) {K : Kn} {pl : Pl} {sz : Nat} {l : List D} (hr : Rep K pl (.ls sz l) v) :
    l.length = 0 ∨ ∃ elems sp, d = .slice elems sp ∧ elems.length = l.length := by
  obtain ⟨fuel, hf⟩ := h
  simp only [Rep] at hr
  obtain ⟨a, n, cap, rfl, h1, _⟩ := hr
  rcases DataW.trod_slice hu hf with ⟨h2, _⟩ | ⟨a', len, cap', elems, rest, m, _, h2, h3, _, _, _, h4, _⟩
  · left
    simp [Value.cells] at h2
    omega
  · right
    simp [Value.cells] at h2
    simp only [Prod.mk.injEq] at h3
    exact ⟨_, _, h3.1, by simp; omega⟩
theorem trodAll_len : ∀ {ts : List TypeId} {vs : List Value} {ds : List (DataW H)} {ps : List MemPlace}, DataW.TrodAll enc P w base spare held ts vs ds ps → ∀ {K : Kn} {pl : Pl} {dl : List D}, RepL K pl dl vs →
    ∀ (j : Nat) t e sz l, ts[j]? = some t → P.underlying t = some (.slice e) → dl[j]? = some (.ls sz l) → l.length = 0 ∨ ∃ elems sp, ds[j]? = some (.slice elems sp) ∧ elems.length = l.length
  | [], _, _, _, h, _, _, _, _, j, t, e, sz, l, ht, _, _ => by simp at ht
  | t0 :: ts, _, _, _, h, K, pl, dl, hr, j, t, e, sz, l, ht, hu, hd => by
    obtain ⟨v, vs1, d, ds1, a, b, rfl, rfl, rfl, h1, h2⟩ := trodAll_cons h
    cases dl with
    | nil => simp at hd
    | cons x dl =>
      simp only [RepL] at hr
      obtain ⟨v', r, hv, hx, hr'⟩ := hr
      cases hv
      cases j with
      | zero =>
        simp at ht hd; subst ht hd
        rcases trod_len hu h1 hx with h3 | ⟨el, sp, h3, h4⟩
        · exact .inl h3
        · exact .inr ⟨el, sp, by simp [h3], h4⟩
      | succ j => simpa using trodAll_len h2 hr' j t e sz l (by simpa using ht) hu (by simpa using hd)
end
/-- The whole law, from its contract; its slices are no longer than the reach lets. -/
theorem law_midL {H : Type} {enc : TypeId × Value → H} {P : Program} {gt : Nat → Option (List D)} {f : FuncId} {fn : Func} {s : ChangeSpec} {apart fresh handsOn : Bool} {W : World} {args : Array Value} {ds gs : List (DataW H)} {before : List MemPlace} {tb : TypeId} {n base : Nat} {r : Reach}
    (hl : laidOutB P = true) (hps : (fn.params.toList.all fun t => P.readableRec t && decide (t < P.types.size)) = true) (hok : (fn.params.toList.all fun t => okT P n t) = true) (hvars : s.vars = []) (hrt : fn.resultTypes = #[tb]) (htb : P.underlying tb = some .bool)
    (hval : ∀ (j : Nat) t v, fn.params[j]? = some t → args[j]? = some v → Value.okWide P W r base t v)
    (hW : DataW.Whole enc P fn.params.toList s.vars apart W args.toList ds gs before) (hfn : fn.params.size = ds.length → s.fn H ds = { results := [.lit (.bool true)], args := ds })
    (hsz : (DataW.weightsEach P (fn.params.toList ++ s.plain.varTypes P) (ds ++ gs)).all (· ≤ reachBytes) = true)
    (hg : GlobOk gt (K0 W)) (hsp : ∀ dl, ShL P n fn.params.toList dl → LenB P fn.params.toList dl → Sp P gt f dl (.bool true)) :
    Calls P f args W fun e W' => ∃ v, e = .returned v ∧ s.post enc P fn apart fresh handsOn false W args v W' := by
  have hW' := hW
  obtain ⟨p, q, hA, hV, rfl, hz, hn⟩ := hW
  obtain ⟨dl, h1, h2⟩ := open_all (b0 := base) (r := r) hok (fun j t v ht hv => hval j t v (by simpa using ht) (by simpa using hv)) hA
  have hlen : ∀ {ts : List TypeId} {vs : List Value} {ds : List (DataW H)} {ps : List MemPlace}, DataW.TrodAll enc P W 0 (fun _ => true) true ts vs ds ps → ts.length = ds.length := by
    intro ts
    induction ts with
    | nil => intro vs ds ps h; obtain ⟨rfl, rfl, rfl⟩ := trodAll_nil h; rfl
    | cons t ts ih => intro vs ds ps h; obtain ⟨v, vs1, d, ds1, a, b, rfl, rfl, rfl, h1, h2⟩ := trodAll_cons h; simp [ih h2]
  have hlb : LenB P fn.params.toList dl := fun j t e sz l ht hu hd => by
    rcases trodAll_len hA h2 j t e sz l ht hu hd with h3 | ⟨el, sp, h3, h4⟩
    · rw [h3, Nat.zero_mul]; exact Nat.zero_le _
    · have hj := (List.getElem?_eq_some_iff.1 ht).1
      have hj2 := (List.getElem?_eq_some_iff.1 h3).1
      have := sized_slice hsz (j := j) (t := t) (e := e) (elems := el) (spare := sp) (by rw [List.getElem?_append_left hj]; exact ht) (by rw [List.getElem?_append_left hj2]; exact h3) hu
      rw [← h4]
      exact Nat.le_trans (Nat.mul_le_mul_right _ (Nat.le_add_right _ _)) this
  refine (calls_law (hsp dl h1 hlb) hg h2).mono fun e W' ⟨he, hw⟩ => ?_
  subst he
  exact ⟨_, rfl, law_post hl hps hvars hrt htb hW' (hfn (by simpa using hlen hA)) hw⟩
theorem arg_ok {l : List Cm} {ts : List TypeId} {dl : List D} {j : Nat} (hL : LenB Tryd.prog ts dl) (ht : ts[j]? = some 23) (hd : dl[j]? = some (.ls 4 (cL l))) (hw : ∀ c ∈ l, c.words.length ≤ maxLen) : ArgOk l := by
  have h := hL j 23 42 4 (cL l) ht Tryd.underlying23 hd
  have e : Tryd.prog.bytesOf 42 = 64 := by kernel_rfl
  rw [e, cL_len] at h
  exact ⟨by unfold reachBytes at h; omega, hw⟩
end Go.Proofs.YtlmhekbbagpnjaaDoor
