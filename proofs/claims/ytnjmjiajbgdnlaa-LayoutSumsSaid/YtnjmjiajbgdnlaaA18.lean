/- Code, and what is called by it. -/
import Derived.Test.YtnjmjiajbgdnlaaA17
set_option linter.all false
namespace Go.AM
open Go Go.RowKit

theorem plainB_ok : ∀ {env : Env}, plainB env = true → PlainE env
  | [], _ => fun s g d h => by simp [get] at h
  | (t, [], d') :: r, h => fun s g d hget => by
    simp only [plainB] at h
    simp only [get] at hget
    cases hts : t == s with
    | true => simp [hts] at hget; exact hget.1
    | false => simp [hts] at hget; exact plainB_ok h s g d hget
  | (_, _ :: _, _) :: _, h => by simp [plainB] at h

section
variable {P : Program} {gt : Nat → Option (List D)} {nt : Nat} {ops : Array Oper} {l : List O} {R : St → Prop} {st : St}

def unlisted (li : Array Bool) (n : Nat) : Nat := ((List.range n).filter fun j => !(li.getD j true)).length

theorem unlisted_set {li : Array Bool} {n i : Nat} (hi : i < n) (hs : li.size = n) (h : li.getD i true = false) : unlisted (li.setIfInBounds i true) n + 1 = unlisted li n := by
  unfold unlisted
  have key : ∀ (l : List Nat), l.Nodup → (∀ x ∈ l, x < n) → (l.filter fun j => !((li.setIfInBounds i true).getD j true)).length + (if i ∈ l then 1 else 0) = (l.filter fun j => !(li.getD j true)).length := by
    intro l
    induction l with
    | nil => intro _ _; simp
    | cons x l ih =>
      intro hnd hlt
      have hnd' := List.nodup_cons.1 hnd
      have ih' := ih hnd'.2 (fun y hy => hlt y (by simp [hy]))
      by_cases hx : i = x
      · subst hx
        have h1 : (li.setIfInBounds i true).getD i true = true := by simp [Array.getD_eq_getD_getElem?, Array.getElem?_setIfInBounds, hs, hi]
        simp only [List.filter_cons, h1, h, Bool.not_true, Bool.not_false, if_true, Bool.false_eq_true, if_false, List.length_cons, List.mem_cons, true_or]
        rw [if_neg hnd'.1] at ih'
        omega
      · have h1 : (li.setIfInBounds i true).getD x true = li.getD x true := by simp [Array.getD_eq_getD_getElem?, Array.getElem?_setIfInBounds, hx]
        simp only [List.filter_cons, h1, List.mem_cons, hx, false_or]
        split
        · simp only [List.length_cons]; omega
        · exact ih'
  have := key (List.range n) List.nodup_range (fun x hx => List.mem_range.1 hx)
  rw [if_pos (List.mem_range.2 hi)] at this
  exact this

theorem backE_ok {k : Nat} : ∀ {es : List Edge}, backE k es = true → ∀ e ∈ es, Region.binds .any e = true → e.on < k
  | [], _, e, he, _ => by simp at he
  | x :: es, h, e, he, hb => by
    simp only [backE] at h
    have h := bA_iff.1 h
    rcases List.mem_cons.1 he with rfl | he
    · have := h.1
      rw [hb] at this
      simpa using this
    · exact backE_ok h.2 e he hb

theorem backB_ok : ∀ {os : List Oper} {k : Nat}, backB k os = true → ∀ j o, os[j]? = some o → ∀ e ∈ o.after, Region.binds .any e = true → e.on < k + j
  | [], _, _, _, _, h, _, _, _ => by simp at h
  | o :: os, k, h, j, o', hj, e, he, hb => by
    simp only [backB] at h
    have h := bA_iff.1 h
    cases j with
    | zero =>
      simp at hj; subst hj
      have := backE_ok h.1 e (by simpa using he) hb
      omega
    | succ j =>
      have := backB_ok h.2 j o' (by simpa using hj) e he hb
      omega

theorem ready_all {li : Array Bool} (hs : li.size = ops.size) (hback : ∀ (j : Nat) (o : Oper), ops[j]? = some o → ∀ e ∈ o.after, Region.binds .any e = true → e.on < j) (h : Region.ready .any ops li = []) : ∀ j, j < ops.size → listedIn li j := by
  intro j
  induction j using Nat.strongRecOn with
  | _ j ih =>
    intro hj
    cases hl : li.getD j true with
    | true => unfold listedIn; simp only [Array.getD_eq_getD_getElem?] at hl ⊢; simp [show j < li.size by omega] at hl ⊢; exact hl
    | false =>
      exfalso
      have : j ∈ Region.ready .any ops li := mem_ready.2 ⟨hl, ops[j], Array.getElem?_eq_getElem hj, fun e he hb => by
        have h1 := hback j ops[j] (Array.getElem?_eq_getElem hj) e he hb
        exact ih e.on h1 (by omega)⟩
      rw [h] at this; cases this

/-- A region, in whatever order. -/
theorem ops_any (T : Trace P gt nt ops 0 l R st) (hlen : l.length = ops.size) (hnt : ∀ (j : Nat) (o' : O) d, l[j]? = some o' → o'.dst = some d → d < nt) (hp : PlainE st.env)
    (hdr : ∀ (j : Nat) (a : O), l[j]? = some a → ∀ (i : Nat) (b : O), l[i]? = some b → i < j → conf a b = true → Bf ops i j)
    (hgw : ∀ (j : Nat) (a : O), l[j]? = some a → ∀ (i : Nat) (b : O) (d : Nat), l[i]? = some b → b.dst = some d → gHas a.g d = true → i < j)
    (hback : ∀ (j : Nat) (o : Oper), ops[j]? = some o → ∀ e ∈ o.after, Region.binds .any e = true → e.on < j)
    {F : Fr} (hFg : F.gt = gt) {Q : Exit → Act → World → Prop} (hQ : ∀ a w st, R st → Den nt F st a w → Q .normal a w) :
    ∀ (fuel : Nat) (li : Array Bool) (a : Act) (w : World), unlisted li ops.size = fuel → PInv T F li a w → wpAny P .any ops Q fuel li a w := by
  have hend : ∀ (li : Array Bool) (a : Act) (w : World), PInv T F li a w → Region.ready .any ops li = [] → Q .normal a w := fun li a w h hr => by
    have hall := ready_all h.size hback hr
    obtain ⟨K, pl, c, hc, hceff, hI, hslots⟩ := h.mem
    have hbx : T.bxs l.length = T.bxs c := T.bxs_const c l.length hc (Nat.le_refl _) fun j oj h1 h2 h3 => by
      cases he : isEff oj.m with
      | false => rfl
      | true => have := (hceff j oj h3 he).1 (hall j (by omega)); omega
    refine hQ a w _ T.last ⟨h.slots, h.defers, K, pl, by rw [hbx]; exact hI, fun s => hslots s l.length (Nat.le_refl _) fun j oj hj _ => ?_⟩
    have hjl := (List.getElem?_eq_some_iff.1 hj).1
    exact ⟨fun _ => hjl, fun _ => hall j (by omega)⟩
  intro fuel
  induction fuel with
  | zero =>
    intro li a w hu h
    have hr : Region.ready .any ops li = [] := by
      cases hr : Region.ready .any ops li with
      | nil => rfl
      | cons i r =>
        have hi : i ∈ Region.ready .any ops li := by rw [hr]; simp
        obtain ⟨hun, oi, hoi, _⟩ := mem_ready.1 hi
        have := unlisted_set (Array.getElem?_eq_some_iff.1 hoi).1 h.size hun
        omega
    exact ⟨hr, hend li a w h hr⟩
  | succ fuel ih =>
    intro li a w hu h
    refine ⟨hend li a w h, fun i hi => ?_⟩
    obtain ⟨hun, oi, hoi, _⟩ := mem_ready.1 hi
    have hset := unlisted_set (Array.getElem?_eq_some_iff.1 hoi).1 h.size hun
    exact any_step T hlen hnt hp hdr hgw hFg h hi fun a' w' h' => ih _ a' w' (by omega) h'

theorem compOs_get : ∀ {os : List Oper} {l : List O}, compOs P nt ops os = some (bareL l) → l.length = os.length ∧ ∀ (j : Nat) (o' : O), l[j]? = some o' → ∃ o, os[j]? = some o ∧ compO P nt ops o = some o'.bare
  | [], [], h => ⟨rfl, fun j o' h => by simp at h⟩
  | [], _ :: _, h => by simp [compOs, bareL] at h
  | o :: os, [], h => by simp only [compOs, bareL] at h; split at h <;> simp at h
  | o :: os, a :: l', h => by
    simp only [compOs, bareL] at h
    split at h
    · rename_i ab lb ha hl
      simp only [Option.some.injEq, List.cons.injEq] at h
      obtain ⟨rfl, rfl⟩ := h
      obtain ⟨h1, h2⟩ := compOs_get hl
      refine ⟨by simp [h1], fun j o' hj => ?_⟩
      cases j with
      | zero => simp at hj; subst hj; exact ⟨o, by simp, ha⟩
      | succ j => obtain ⟨o2, h3, h4⟩ := h2 j o' (by simpa using hj); exact ⟨o2, by simpa using h3, h4⟩
    · cases h

theorem region_sound {id : Nat} {draw : Bool} (hm : P.follows .mixedOrders = true) (hc : compOs P nt ops ops.toList = some (bareL l)) (hd : draw = false ∨ (drawB [] [] ops.toList l = true ∧ backB 0 ops.toList = true)) (hp : PlainE st.env)
    {F : Fr} (hFg : F.gt = gt) {Q : Exit → Act → World → Prop} (hQ : ∀ a w st, R st → Den nt F st a w → Q .normal a w) (hr : runOps (SpM P gt) gt l R st) {a : Act} {w : World} (hden : Den nt F st a w) :
    (Code.region id ops draw).wp P Q a w := by
  have hk : ∀ j, ops.toList[j]? = ops[0 + j]? := fun j => by simp
  cases draw with
  | false =>
    subst hFg
    refine wp_region ?_
    rw [List.range_eq_range']
    have := ops_seq (F := F) hQ ops.toList l 0 st a w hc hk hr hden
    simpa using this
  | true =>
    rcases hd with hd | ⟨hd, hb⟩
    · cases hd
    obtain ⟨T⟩ := trace_of_run ops.toList l 0 st hc hk hr
    obtain ⟨hlen, hget⟩ := compOs_get hc
    have hspec := drawB_spec (ops := ops) l [] [] ops.toList hd (fun j => by simp) rfl (fun j k h => by cases j <;> simp [nthL] at h)
    obtain ⟨hsz, hdf, K, pl, hI, hs⟩ := hden
    refine wp_region_any hm ?_
    have hlen' : l.length = ops.size := by simpa using hlen
    refine ops_any T hlen' (fun j o' d hj hd => ?_) hp (fun j a' hj i b hi hij hcf => ?_) (fun j a' hj i b d hi hbd hg => hspec.2 j a' hj i b d hi hbd hg) (fun j o ho e he hbd => ?_) (F := F) hFg hQ ops.size _ a _ ?_ ?_
    · obtain ⟨o, ho, hco⟩ := hget j o' hj
      obtain ⟨_, hdst, hlt, _⟩ := compO_spec hco
      exact hlt d (by rw [← hdst]; exact hd)
    · have := hspec.1 j a' hj i b (by simpa using hi) (by simpa using hij) hcf
      simpa using this
    · have := backB_ok hb j o (by simpa using ho) e he hbd
      omega
    · unfold unlisted
      rw [List.filter_eq_self.2 (fun x hx => by
        have := List.mem_range.1 hx
        simp [Array.getD_eq_getD_getElem?, this])]
      simp
    · have hno : ∀ j, ¬ listedIn (Array.replicate ops.size false) j := fun j h => by
        unfold listedIn at h
        simp only [Array.getD_eq_getD_getElem?, Array.getElem?_replicate] at h
        split at h <;> simp at h
      refine ⟨by simp, fun j hj => absurd hj (hno j), hsz, hdf, K, pl, 0, Nat.zero_le _, fun j oj _ _ => ⟨fun h => absurd h (hno j), fun h => by omega⟩, ?_, fun s i hi hcut => ?_⟩
      · rw [T.bx0]; exact ⟨hI.chg.trans (S' := fun _ => False) ⟨rfl, rfl, rfl, Nat.le_refl _, fun _ _ _ => rfl⟩ (fun _ _ h => h.elim), hI.mod, hI.le, hI.new, hI.tab.move (KLe.refl _) (fun b _ h3 _ => ⟨rfl, h3⟩), hI.own, hI.len, hI.keep, hI.glob⟩
      · intro g d hg hf
        rcases T.cases i hi hg with ⟨j, oj, h1, h2, h3, _⟩ | ⟨h1, h2⟩
        · exact absurd ((hcut j oj h2 h3).2 h1) (hno j)
        · rw [T.env0] at h2
          have h3 := hp _ _ _ h2
          subst h3
          exact hs s [] d h2 (.inl rfl)
end
end Go.AM
