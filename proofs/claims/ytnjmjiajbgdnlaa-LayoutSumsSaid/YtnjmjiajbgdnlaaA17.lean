/- A region: in whatever order. -/
import Derived.Test.YtnjmjiajbgdnlaaA16
import Derived.Still
set_option linter.all false
namespace Go.AM
open Go Go.RowKit

theorem hasN_iff {t : Nat} : ∀ {l : List Nat}, hasN l t = true ↔ t ∈ l
  | [] => by simp [hasN]
  | s :: l => by
    simp only [hasN]
    cases h : s == t with
    | true => simp at h; simp [h]
    | false => simp at h; simp [hasN_iff (l := l), Ne.symm h]

def DClosed (ops : Array Oper) (S : Nat → Prop) : Prop := ∀ j, S j → ∀ o, ops[j]? = some o → ∀ e ∈ o.after, Region.binds .any e = true → S e.on
/-- It comes ahead, in every order. -/
def Bf (ops : Array Oper) (k i : Nat) : Prop := ∀ S : Nat → Prop, DClosed ops S → (∀ o, ops[i]? = some o → ∀ e ∈ o.after, Region.binds .any e = true → S e.on) → S k

theorem Bf.trans {ops : Array Oper} {a b c : Nat} (h : Bf ops a b) (h' : Bf ops b c) : Bf ops a c := fun S hS hc => h S hS (fun o ho e he hb => hS b (h' S hS hc) o ho e he hb)
theorem Bf.of {ops : Array Oper} {k i : Nat} (h : Bf ops k i) {S : Nat → Prop} (hS : DClosed ops S) (hi : S i) : S k := h S hS (fun o ho e he hb => hS i hi o ho e he hb)

theorem insAll_mem {x : Nat} : ∀ {r l : List Nat}, x ∈ insAll l r → x ∈ l ∨ x ∈ r
  | [], l, h => .inl (by simpa [insAll] using h)
  | y :: r, l, h => by
    simp only [insAll] at h
    rcases insAll_mem h with h | h
    · unfold insN at h
      split at h
      · exact .inl h
      · rcases List.mem_cons.1 h with rfl | h
        · exact .inr (by simp)
        · exact .inl h
    · exact .inr (by simp [h])

theorem ancs_bf {ops : Array Oper} {i : Nat} {o : Oper} (ho : ops[i]? = some o) {acc : List (List Nat)} (hacc : ∀ j k, k ∈ nthL acc j → Bf ops k j) : ∀ (es : List Edge), (∀ e ∈ es, e ∈ o.after) → ∀ k, k ∈ ancs acc es → Bf ops k i
  | [], _, k, h => by simp [ancs] at h
  | e :: es, he, k, h => by
    simp only [ancs] at h
    have ih := ancs_bf ho hacc es (fun e' he' => he e' (by simp [he']))
    split at h
    · rename_i hb
      have hon : Bf ops e.on i := fun S hS hc => hc o ho e (he e (by simp)) hb
      rcases insAll_mem h with h | h
      · unfold insN at h
        split at h
        · exact ih k h
        · rcases List.mem_cons.1 h with rfl | h
          · exact hon
          · exact ih k h
      · exact (hacc _ _ h).trans hon
    · exact ih k h

theorem nthL_append {x : List Nat} {k : Nat} : ∀ {acc : List (List Nat)} {j : Nat}, k ∈ nthL (acc ++ [x]) j → k ∈ nthL acc j ∨ (j = acc.length ∧ k ∈ x)
  | [], 0, h => .inr ⟨rfl, by simpa [nthL] using h⟩
  | [], j + 1, h => by simp [nthL] at h
  | y :: acc, 0, h => .inl (by simpa [nthL] using h)
  | y :: acc, j + 1, h => by
    simp only [List.cons_append, nthL] at h ⊢
    rcases nthL_append h with h' | ⟨h1, h'⟩
    · exact .inl h'
    · exact .inr ⟨by simp [h1], h'⟩

theorem drawAhead_spec {an : List Nat} {a : O} : ∀ {done : List O} {i0 : Nat}, drawAhead an a i0 done = true → ∀ j b, done[j]? = some b → conf a b = true → i0 + j ∈ an
  | [], _, _, _, _, h, _ => by simp at h
  | c :: done, i0, h, j, b, hb, hc => by
    simp only [drawAhead, bA_iff] at h
    cases j with
    | zero =>
      simp at hb; subst hb
      rw [hc] at h
      simpa using hasN_iff.1 h.1
    | succ j =>
      have := drawAhead_spec h.2 j b (by simpa using hb) hc
      have e : i0 + 1 + j = i0 + (j + 1) := by omega
      rwa [e] at this

theorem notWritten_spec {g : Option (Nat × Bool)} : ∀ {l : List O}, notWritten g l = true → ∀ (i : Nat) (b : O) (d : Nat), l[i]? = some b → b.dst = some d → gHas g d = false
  | [], _, _, _, _, h, _ => by simp at h
  | c :: l, h, i, b, d, hb, hd => by
    simp only [notWritten, bA_iff] at h
    cases i with
    | zero =>
      simp at hb; subst hb
      rw [hd] at h
      simpa [bN_iff] using h.1
    | succ i => exact notWritten_spec h.2 i b d (by simpa using hb) hd

theorem drawB_spec {ops : Array Oper} : ∀ (as : List O) (acc : List (List Nat)) (done : List O) (os : List Oper), drawB acc done os as = true → (∀ j, os[j]? = ops[done.length + j]?) → acc.length = done.length → (∀ j k, k ∈ nthL acc j → Bf ops k j) →
    (∀ (j : Nat) (a : O), as[j]? = some a → ∀ (i : Nat) (b : O), (done ++ as)[i]? = some b → i < done.length + j → conf a b = true → Bf ops i (done.length + j)) ∧
    (∀ (j : Nat) (a : O), as[j]? = some a → ∀ (i : Nat) (b : O) (d : Nat), as[i]? = some b → b.dst = some d → gHas a.g d = true → i < j)
  | [], acc, done, os, h, hk, hl, hacc => ⟨fun j a hj => by simp at hj, fun j a hj => by simp at hj⟩
  | a :: as, acc, done, [], h, hk, hl, hacc => by simp [drawB] at h
  | a :: as, acc, done, o :: os, h, hk, hl, hacc => by
    simp only [drawB, bA_iff] at h
    obtain ⟨h1, h2, h3⟩ := h
    have ho : ops[done.length]? = some o := by simpa using (hk 0).symm
    have hanc : ∀ k, k ∈ ancs acc o.after.toList → Bf ops k done.length := ancs_bf ho hacc o.after.toList (fun e he => by simpa using he)
    obtain ⟨ih1, ih2⟩ := drawB_spec as (acc ++ [ancs acc o.after.toList]) (done ++ [a]) os h3 (fun j => by have := hk (j + 1); simp at this ⊢; rw [this]; congr 1; omega) (by simp [hl]) (fun j k hjk => by
      rcases nthL_append hjk with h | ⟨rfl, h⟩
      · exact hacc j k h
      · rw [hl]; exact hanc k h)
    refine ⟨fun j c hj i b hb hij hc => ?_, fun j c hj i b d hb hd hg => ?_⟩
    · cases j with
      | zero =>
        simp at hj; subst hj
        have hb' : done[i]? = some b := by rwa [List.getElem?_append_left (by omega)] at hb
        have := drawAhead_spec h1 i b hb' hc
        simpa using hanc i (by simpa using this)
      | succ j =>
        have := ih1 j c (by simpa using hj) i b (by simpa using hb) (by simp; omega) hc
        have e : (done ++ [a]).length + j = done.length + (j + 1) := by simp; omega
        rwa [e] at this
    · cases j with
      | zero =>
        simp at hj; subst hj
        have := notWritten_spec h2 i b d hb hd
        rw [hg] at this; cases this
      | succ j =>
        cases i with
        | zero => omega
        | succ i => have := ih2 j c (by simpa using hj) i b d (by simpa using hb) hd hg; omega

/-- No slot hangs on a test. -/
def PlainE (env : Env) : Prop := ∀ s g d, get env s = some (g, d) → g = []

section
variable {P : Program} {gt : Nat → Option (List D)} {nt : Nat} {ops : Array Oper} {l : List O} {R : St → Prop} {st : St}

theorem Trace.cases (T : Trace P gt nt ops 0 l R st) {s : Nat} {g : G} {d : D} : ∀ (i : Nat), i ≤ l.length → get (T.env i) s = some (g, d) →
    (∃ (j : Nat) (o' : O), j < i ∧ l[j]? = some o' ∧ o'.dst = some s ∧ g = T.gs j ∧ d = T.ds j ∧ ∀ m om, j < m → m < i → l[m]? = some om → om.dst ≠ some s) ∨
    ((∀ m om, m < i → l[m]? = some om → om.dst ≠ some s) ∧ get (T.env 0) s = some (g, d))
  | 0, _, h => .inr ⟨fun m om hm => by omega, h⟩
  | i + 1, hi, h => by
    obtain ⟨o', ho⟩ : ∃ o', l[i]? = some o' := ⟨l[i], List.getElem?_eq_getElem (by omega)⟩
    obtain ⟨_, he, _⟩ := T.step i o' ho
    rw [he] at h
    by_cases hd : o'.dst = some s
    · rw [hd] at h
      simp [putE, get] at h
      exact .inl ⟨i, o', by omega, ho, hd, h.1.symm, h.2.symm, fun m om h1 h2 => by omega⟩
    · have h' : get (T.env i) s = some (g, d) := by
        cases hdst : o'.dst with
        | none => rw [hdst] at h; simpa [putE] using h
        | some t =>
          rw [hdst] at h hd
          have hne : (t == s) = false := by simp; intro e; exact hd (by rw [e])
          simpa [putE, get, hne] using h
      rcases Trace.cases T i (by omega) h' with ⟨j, o2, h1, h2, h3, h4, h5, h6⟩ | ⟨h1, h2⟩
      · refine .inl ⟨j, o2, by omega, h2, h3, h4, h5, fun m om hm1 hm2 hm3 => ?_⟩
        by_cases hmi : m = i
        · subst hmi; rw [ho] at hm3; cases hm3; exact hd
        · exact h6 m om hm1 (by omega) hm3
      · refine .inr ⟨fun m om hm1 hm3 => ?_, h2⟩
        by_cases hmi : m = i
        · subst hmi; rw [ho] at hm3; cases hm3; exact hd
        · exact h1 m om (by omega) hm3

theorem touches_reads {a : O} {t : Nat} (h : t ∈ msl a.m ∨ gHas a.g t = true) : touches a (some t) = true := by
  simp only [touches, bO_iff]
  rcases h with h | h
  · exact .inl (hasN_iff.2 h)
  · exact .inr (.inl h)

theorem touches_dst {a : O} {t : Nat} (h : a.dst = some t) : touches a (some t) = true := by
  simp only [touches, bO_iff, h]
  exact .inr (.inr (by simp))

theorem Trace.tests (T : Trace P gt nt ops 0 l R st) (hp : PlainE st.env) (hdr : ∀ (j : Nat) (a : O), l[j]? = some a → ∀ (i : Nat) (b : O), l[i]? = some b → i < j → conf a b = true → Bf ops i j) : ∀ (i : Nat) (o' : O), l[i]? = some o' → ∀ t ∈ gsl (T.gs i),
    ∃ k ok, l[k]? = some ok ∧ k ≤ i ∧ gHas ok.g t = true ∧ (k = i ∨ Bf ops k i) := by
  intro i
  induction i using Nat.strongRecOn with
  | _ i ih =>
    intro o' ho t ht
    obtain ⟨hg, _⟩ := T.step i o' ho
    obtain ⟨hg, _⟩ := guardO_some hg
    have hilt : i < l.length := (List.getElem?_eq_some_iff.1 ho).1
    cases hgd : o'.g with
    | none => rw [hgd] at hg; simp [guardP] at hg; rw [hg] at ht; simp [gsl] at ht
    | some sp =>
      obtain ⟨s, pol⟩ := sp
      rw [hgd] at hg
      have hself : gHas o'.g s = true := by rw [hgd]; simp [gHas]
      simp only [guardP] at hg
      split at hg
      · rename_i b hb
        simp at hg
        rw [← hg] at ht
        simp [gsl] at ht
        exact ⟨i, o', ho, Nat.le_refl _, by rw [ht]; exact hself, .inl rfl⟩
      · rename_i x t' b hb
        cases hf : freshG (x :: t') (T.env i) s with
        | false => simp [hf] at hg
        | true =>
          simp [hf] at hg
          rw [← hg] at ht
          simp only [gsl, List.map_cons, List.mem_cons] at ht
          rcases ht with rfl | ht
          · exact ⟨i, o', ho, Nat.le_refl _, hself, .inl rfl⟩
          · rcases T.cases i (by omega) hb with ⟨j, oj, h1, h2, h3, h4, h5, h6⟩ | ⟨h1, h2⟩
            · have hbf : Bf ops j i := hdr i o' ho j oj h2 h1 (by
                simp only [conf, bO_iff]
                refine .inl ?_
                rw [h3]; exact touches_reads (.inr hself))
              obtain ⟨k, ok, h7, h8, h9, h10⟩ := ih j h1 oj h2 t (by rw [← h4]; simpa [gsl] using ht)
              refine ⟨k, ok, h7, by omega, h9, .inr ?_⟩
              rcases h10 with rfl | h10
              · exact hbf
              · exact h10.trans hbf
            · rw [T.env0] at h2
              have := hp _ _ _ h2
              cases this
      · cases hg

/-- The slot's writes that have been carried out are just those ahead of i. -/
def CutAt (l : List O) (S : Nat → Prop) (s i : Nat) : Prop := ∀ (j : Nat) (o' : O), l[j]? = some o' → o'.dst = some s → (S j ↔ j < i)

def listedIn (li : Array Bool) (j : Nat) : Prop := li.getD j false = true

structure PInv (T : Trace P gt nt ops 0 l R st) (F : Fr) (li : Array Bool) (a : Act) (w : World) : Prop where
  size : li.size = ops.size
  closed : DClosed ops (listedIn li)
  slots : a.tmps.size = nt
  defers : a.defers = []
  mem : ∃ K pl c, c ≤ l.length ∧ (∀ (j : Nat) (o' : O), l[j]? = some o' → isEff o'.m = true → (listedIn li j ↔ j < c)) ∧ Inv F K pl (T.bxs c) w ∧
    ∀ s i, i ≤ l.length → CutAt l (listedIn li) s i → SlotOk K pl (T.env i) a s

theorem Trace.bxs_const (T : Trace P gt nt ops 0 l R st) (p : Nat) : ∀ (q : Nat), p ≤ q → q ≤ l.length → (∀ (j : Nat) (o' : O), p ≤ j → j < q → l[j]? = some o' → isEff o'.m = false) → T.bxs q = T.bxs p
  | q, hpq, hq, h => by
    by_cases he : q = p
    · rw [he]
    · obtain ⟨q, rfl⟩ : ∃ r, q = r + 1 := ⟨q - 1, by omega⟩
      obtain ⟨o', ho⟩ : ∃ o', l[q]? = some o' := ⟨l[q], List.getElem?_eq_getElem (by omega)⟩
      rw [(T.step q o' ho).2.2.2.1 (h q o' (by omega) (by omega) ho)]
      exact Trace.bxs_const T p q (by omega) (by omega) fun j o2 h1 h2 => h j o2 h1 (by omega)

/-- Between, what is written is none of these. -/
theorem Trace.agree (T : Trace P gt nt ops 0 l R st) (L : List Nat) (p : Nat) : ∀ (q : Nat), p ≤ q → q ≤ l.length → (∀ (j : Nat) (o' : O), p ≤ j → j < q → l[j]? = some o' → isEff o'.m = true → L = [] ∨ ∃ L', puts o' = some L' ∧ ∀ k ∈ L, k ∉ L') → Agr L (T.bxs p) (T.bxs q)
  | q, hpq, hq, h => by
    by_cases he : q = p
    · rw [he]; exact fun _ _ => rfl
    · obtain ⟨q, rfl⟩ : ∃ r, q = r + 1 := ⟨q - 1, by omega⟩
      obtain ⟨o', ho⟩ : ∃ o', l[q]? = some o' := ⟨l[q], List.getElem?_eq_getElem (by omega)⟩
      have ih := Trace.agree T L p q (by omega) (by omega) fun j o2 h1 h2 => h j o2 h1 (by omega)
      obtain ⟨_, _, _, h1, _, h2⟩ := T.step q o' ho
      intro k hk
      rw [ih k hk]
      cases hef : isEff o'.m with
      | false => rw [h1 hef]
      | true =>
        rcases h q o' (by omega) (by omega) ho hef with h3 | ⟨L', h3, h4⟩
        · rw [h3] at hk; cases hk
        · exact (h2 L' h3 k (h4 k hk)).symm

theorem meets_iff {r : List Nat} : ∀ {l : List Nat}, meets l r = false → ∀ k ∈ l, k ∉ r
  | [], _, k, h => by cases h
  | x :: l, h, k, hk => by
    simp only [meets] at h
    cases hx : hasN r x with
    | true => rw [hx] at h; cases h
    | false =>
      rw [hx] at h
      rcases List.mem_cons.1 hk with rfl | hk
      · intro h2; rw [hasN_iff.2 h2] at hx; cases hx
      · exact meets_iff (l := l) h k hk
theorem memC_no {a e : O} (h : memC a e = false) : ∃ L, looks a = some L ∧ (L = [] ∨ ∃ L', puts e = some L' ∧ ∀ k ∈ L, k ∉ L') := by
  unfold memC at h
  split at h
  · rename_i h1; exact ⟨[], h1, .inl rfl⟩
  · rename_i l r _ h1 h2; exact ⟨l, h1, .inr ⟨r, h2, meets_iff h⟩⟩
  · cases h

theorem listed_set {li : Array Bool} {i j : Nat} (hi : i < li.size) : listedIn (li.setIfInBounds i true) j ↔ j = i ∨ listedIn li j := by
  unfold listedIn
  simp only [Array.getD_eq_getD_getElem?, Array.getElem?_setIfInBounds]
  by_cases h : i = j
  · subst h; simp [hi]
  · simp [h, Ne.symm h]

/-- One operation that may come now. -/
theorem any_step (T : Trace P gt nt ops 0 l R st) (hlen : l.length = ops.size) (hnt : ∀ (j : Nat) (o' : O) d, l[j]? = some o' → o'.dst = some d → d < nt) (hp : PlainE st.env)
    (hdr : ∀ (j : Nat) (a : O), l[j]? = some a → ∀ (i : Nat) (b : O), l[i]? = some b → i < j → conf a b = true → Bf ops i j)
    (hgw : ∀ (j : Nat) (a : O), l[j]? = some a → ∀ (i : Nat) (b : O) (d : Nat), l[i]? = some b → b.dst = some d → gHas a.g d = true → i < j)
    {F : Fr} (hFg : F.gt = gt) {li : Array Bool} {a : Act} {w : World} (h : PInv T F li a w) {i : Nat} (hr : i ∈ Region.ready .any ops li) {next : Act → World → Prop} {Q : Exit → Act → World → Prop}
    (hn : ∀ a' w', PInv T F (li.setIfInBounds i true) a' w' → next a' w') : wpOp P ops Q i next a w := by
  obtain ⟨hun, oi, hoi, hall⟩ := mem_ready.1 hr
  have hilt : i < ops.size := (Array.getElem?_eq_some_iff.1 hoi).1
  have hil : i < li.size := by rw [h.size]; exact hilt
  obtain ⟨o', ho⟩ : ∃ o', l[i]? = some o' := ⟨l[i], List.getElem?_eq_getElem (by omega)⟩
  obtain ⟨hg, henv, hok⟩ := T.step i o' ho
  have hnoti : ¬ listedIn li i := by
    unfold listedIn
    simp only [Array.getD_eq_getD_getElem?] at hun ⊢
    simp [hil] at hun ⊢; exact hun
  -- what comes ahead of i has been carried out
  have hbf : ∀ k, Bf ops k i → listedIn li k := fun k hk => hk _ h.closed (fun o ho' e he hb => by
    rw [hoi] at ho'; cases ho'
    exact hall e he hb)
  have hbf' : ∀ k j, Bf ops k j → listedIn li j → listedIn li k := fun k j hk hj => hk.of h.closed hj
  obtain ⟨K, pl, c, hc, hceff, hI, hslots⟩ := h.mem
  have conf_dst : ∀ {x y : O} {s : Nat}, y.dst = some s → touches x (some s) = true → conf x y = true := fun hy ht => by simp only [conf, bO_iff]; left; rw [hy]; exact ht
  have conf_dst' : ∀ {x y : O} {s : Nat}, x.dst = some s → touches y (some s) = true → conf x y = true := fun hx ht => by simp only [conf, bO_iff]; right; left; rw [hx]; exact ht
  have hcutm : ∀ s, touches o' (some s) = true → CutAt l (listedIn li) s i := fun s hs j oj hj hd => by
    rcases Nat.lt_trichotomy j i with h1 | h1 | h1
    · exact ⟨fun _ => h1, fun _ => hbf j (hdr i o' ho j oj hj h1 (conf_dst hd hs))⟩
    · subst h1; exact ⟨fun h2 => absurd h2 hnoti, fun h2 => by omega⟩
    · refine ⟨fun h2 => absurd (hbf' i j (hdr j oj hj i o' ho h1 (conf_dst' hd hs)) h2) hnoti, fun h2 => by omega⟩
  have hcutg : ∀ t ∈ gsl (T.gs i), CutAt l (listedIn li) t i := fun t ht j oj hj hd => by
    obtain ⟨k, ok, h1, h2, h3, h4⟩ := T.tests hp hdr i o' ho t ht
    have h5 := hgw k ok h1 j oj t hj hd h3
    have h6 : Bf ops j k := hdr k ok h1 j oj hj h5 (conf_dst hd (touches_reads (.inr h3)))
    have h7 : Bf ops j i := by
      rcases h4 with rfl | h4
      · exact h6
      · exact h6.trans h4
    exact ⟨fun _ => by omega, fun _ => hbf j h7⟩
  -- what is written stands in the text's order
  have hbb : ∀ (j : Nat) (oj : O), l[j]? = some oj → isEff oj.m = true → (isEff o'.m = true ∨ memC o' oj = true) → j ≠ i → (listedIn li j ↔ j < i) := fun j oj hj he hx hne => by
    have hx' : bO (isEff o'.m) (memC o' oj) = true := bO_iff.2 hx
    rcases Nat.lt_trichotomy j i with h1 | h1 | h1
    · exact ⟨fun _ => h1, fun _ => hbf j (hdr i o' ho j oj hj h1 (by simp only [conf, bO_iff]; exact .inr (.inr (.inr (bA_iff.2 ⟨he, hx'⟩)))))⟩
    · exact absurd h1 hne
    · refine ⟨fun h2 => absurd (hbf' i j (hdr j oj hj i o' ho h1 (by simp only [conf, bO_iff]; exact .inr (.inr (.inl (bA_iff.2 ⟨he, bO_iff.2 hx⟩))))) h2) hnoti, fun h2 => by omega⟩
  -- the own memory is what the operation looks for
  have hmem : OpOk P gt nt ops i o' (T.gs i) (T.env i) (T.bxs c) (T.ds i) (if isEff o'.m then T.bxs (i + 1) else T.bxs c) := by
    have e0 : 0 + i = i := by omega
    rw [e0] at hok
    obtain ⟨hok1, heff1, hlook, _⟩ := hok
    -- between c and i what is written has no part in it
    have between : ∀ (j : Nat) (oj : O), l[j]? = some oj → isEff oj.m = true → (min c i ≤ j ∧ j < max c i) → ¬ (isEff o'.m = true ∨ memC o' oj = true) := fun j oj hj he hb hx => by
      have h1 := hceff j oj hj he
      by_cases hji : j = i
      · subst hji
        exact hnoti (h1.2 (by omega))
      · have h2 := hbb j oj hj he hx hji
        rw [h1] at h2
        omega
    cases he : isEff o'.m with
    | true =>
      have hbx : T.bxs c = T.bxs i := by
        rcases Nat.le_total c i with h1 | h1
        · exact (T.bxs_const c i h1 (by omega) fun j oj h2 h3 h4 => by
            cases he2 : isEff oj.m with
            | false => rfl
            | true => exact absurd (.inl he) (between j oj h4 he2 (by omega))).symm
        · exact T.bxs_const i c h1 hc fun j oj h2 h3 h4 => by
            cases he2 : isEff oj.m with
            | false => rfl
            | true => exact absurd (.inl he) (between j oj h4 he2 (by omega))
      rw [hbx]; simpa using hok1
    | false =>
      simp only [Bool.false_eq_true, if_false]
      cases hl : looks o' with
      | none =>
        have hmc : ∀ oj, memC o' oj = true := fun oj => by unfold memC; rw [hl]
        have hbx : T.bxs c = T.bxs i := by
          rcases Nat.le_total c i with h1 | h1
          · exact (T.bxs_const c i h1 (by omega) fun j oj h2 h3 h4 => by
              cases he2 : isEff oj.m with
              | false => rfl
              | true => exact absurd (.inr (hmc oj)) (between j oj h4 he2 (by omega))).symm
          · exact T.bxs_const i c h1 hc fun j oj h2 h3 h4 => by
              cases he2 : isEff oj.m with
              | false => rfl
              | true => exact absurd (.inr (hmc oj)) (between j oj h4 he2 (by omega))
        rw [hbx]
        have := heff1 he
        rw [this] at hok1; exact hok1
      | some L =>
        refine hlook L hl (T.bxs c) ?_
        have far : ∀ (j : Nat) (oj : O), min c i ≤ j → j < max c i → l[j]? = some oj → isEff oj.m = true → L = [] ∨ ∃ L', puts oj = some L' ∧ ∀ k ∈ L, k ∉ L' := fun j oj h1 h2 h3 h4 => by
          cases hm : memC o' oj with
          | true => exact absurd (.inr hm) (between j oj h3 h4 ⟨h1, h2⟩)
          | false =>
            obtain ⟨L2, h5, h6⟩ := memC_no hm
            rw [hl] at h5; cases h5; exact h6
        rcases Nat.le_total c i with h1 | h1
        · exact fun k hk => (T.agree L c i h1 (by omega) (fun j oj h2 h3 => far j oj (by omega) (by omega)) k hk).symm
        · exact T.agree L i c h1 hc (fun j oj h2 h3 => far j oj (by omega) (by omega))
  refine hmem F K pl w a hFg hI h.slots (fun s hs => ?_) next Q fun v w' K' pl' h1 h2 h3 h4 h5 => hn _ _ ?_
  · rcases List.mem_append.1 hs with hs | hs
    · exact hslots s i (by omega) (hcutm s (touches_reads (.inl hs)))
    · exact hslots s i (by omega) (hcutg s hs)
  · have hnot := (guardO_some hg).2
    refine ⟨by simp [h.size], fun j hj o2 ho2 e he hb => ?_, by rw [size_put]; exact h.slots, by rw [put_defers]; exact h.defers, K', pl', if isEff o'.m then i + 1 else c, ?_, fun j oj hj he => ?_, ?_, fun s i' hi' hcut => ?_⟩
    · rw [listed_set hil] at hj ⊢
      rcases hj with rfl | hj
      · rw [hoi] at ho2; cases ho2
        exact .inr (hall e he hb)
      · exact .inr (h.closed j hj o2 ho2 e he hb)
    · split <;> omega
    · rw [listed_set hil]
      by_cases hji : j = i
      · subst hji
        rw [ho] at hj; cases hj
        simp [he]
      · have h7 := hceff j oj hj he
        split
        · rename_i hei
          have h6 := hbb j oj hj he (.inl hei) hji
          constructor
          · rintro (h8 | h8)
            · exact absurd h8 hji
            · have := h6.1 h8; omega
          · intro h8; exact .inr (h6.2 (by omega))
        · constructor
          · rintro (h8 | h8)
            · exact absurd h8 hji
            · exact h7.1 h8
          · intro h8; exact .inr (h7.2 h8)
    · split
      · rename_i he; rw [if_pos he] at h3; exact h3
      · rename_i he; rw [if_neg he] at h3; exact h3
    · by_cases hsd : o'.dst = some s
      · -- the slot that i writes
        have hii : i < i' := (hcut i o' ho hsd).1 ((listed_set hil).2 (.inl rfl))
        have hlast : ∀ m om, i < m → m < i' → l[m]? = some om → om.dst ≠ some s := fun m om hm1 hm2 hm3 hm4 => by
          have h6 := (hcut m om hm3 hm4).2 hm2
          rw [listed_set hil] at h6
          rcases h6 with h6 | h6
          · omega
          · exact hnoti (hbf' i m (hdr m om hm3 i o' ho hm1 (conf_dst' hm4 (touches_dst hsd))) h6)
        intro g d hget hf
        rcases T.cases i' hi' hget with ⟨j, oj, h6, h7, h8, h9, h10, h11⟩ | ⟨h6, h7⟩
        · have hji : j = i := by
            rcases Nat.lt_trichotomy j i with h12 | h12 | h12
            · exact absurd hsd (h11 i o' h12 hii ho)
            · exact h12
            · exact absurd h8 (hlast j oj h12 h6 h7)
          subst hji
          subst h9; subst h10
          rw [hsd] at hnot ⊢
          rw [getD_put_self (by rw [h.slots]; exact hnt _ _ _ ho hsd), holds_put (d := some s) hnot]
          exact ⟨h4, h5⟩
        · exact absurd hsd (h6 i o' hii ho)
      · -- another slot
        have hcut' : CutAt l (listedIn li) s i' := fun j oj hj hd => by
          have h6 := hcut j oj hj hd
          rw [listed_set hil] at h6
          by_cases hji : j = i
          · subst hji; rw [ho] at hj; cases hj; exact absurd hd hsd
          · exact ⟨fun h7 => h6.1 (.inr h7), fun h7 => by rcases h6.2 h7 with h8 | h8; exact absurd h8 hji; exact h8⟩
        have h6 := (hslots s i' hi' hcut').mono h1 h2
        cases hdst : o'.dst with
        | none => simpa [Act.put] using h6
        | some t =>
          have hts : t ≠ s := fun e => hsd (by rw [hdst, e])
          intro g d hget hf
          have h7 := h6 g d hget hf
          rw [getD_put_ne hts]
          have hng : notInO g (some t) = true := by
            rcases T.cases i' hi' hget with ⟨j, oj, h8, h9, h10, h11, h12, h13⟩ | ⟨h8, h9⟩
            · subst h11
              have hjS : listedIn li j := (hcut' j oj h9 h10).2 h8
              have key : ∀ x ∈ gsl (T.gs j), x ≠ t := fun x hx e => by
                subst e
                obtain ⟨k, ok, k1, k2, k3, k4⟩ := T.tests hp hdr j oj h9 x hx
                have k5 := hgw k ok k1 i o' x ho hdst k3
                have k6 : Bf ops i k := hdr k ok k1 i o' ho k5 (conf_dst hdst (touches_reads (.inr k3)))
                have k7 : listedIn li k := by
                  rcases k4 with rfl | k4
                  · exact hjS
                  · exact hbf' k j k4 hjS
                exact hnoti (hbf' i k k6 k7)
              have gen : ∀ (g : G), (∀ x ∈ gsl g, x ≠ t) → notInG g t = true := by
                intro g
                induction g with
                | nil => intro _; rfl
                | cons p g ih =>
                  obtain ⟨p1, p2⟩ := p
                  intro hx
                  simp only [notInG, bA_iff, bN_iff, beq_eq_false_iff_ne]
                  exact ⟨hx p1 (by simp [gsl]), ih fun x hx' => hx x (by simp [gsl] at hx' ⊢; exact .inr hx')⟩
              exact gen _ key
            · rw [T.env0] at h9
              rw [hp _ _ _ h9]; rfl
          rw [holds_put hng]
          exact h7
end
end Go.AM
