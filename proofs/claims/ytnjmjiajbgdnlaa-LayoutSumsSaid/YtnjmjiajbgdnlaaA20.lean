/- What a user of the little machine needs. -/
import Derived.Test.YtnjmjiajbgdnlaaA19
set_option linter.all false
namespace Go.AM
open Go

mutual
theorem plain_rep {K K' : Kn} {pl pl' : Pl} : ∀ (d : D) (v : Value), scal d = true → Rep K pl d v → Rep K' pl' d v
  | .int _ _, _, _, h => by simpa [Rep] using h
  | .bool _, _, _, h => by simpa [Rep] using h
  | .str _, _, _, h => by simpa [Rep] using h
  | .ls _ _, _, hc, _ => by simp [scal] at hc
  | .agg l, v, hc, h => by simp [scal] at hc
  | .tup l, v, hc, h => by simp [scal] at hc
  | .mp _ _, _, hc, _ => by simp [scal] at hc
  | .fn _ _, _, hc, _ => by simp [scal] at hc
  | .nil, _, hc, _ => by simp [scal] at hc
  | .glob _ _, _, hc, _ => by simp [scal] at hc
  | .boxi _ _, _, hc, _ => by simp [scal] at hc
  | .bsl _ _ _ _, _, hc, _ => by simp [scal] at hc
  | .ownm _ _, _, hc, _ => by simp [scal] at hc
  | .box _ _, _, hc, _ => by simp [scal] at hc
  | .own _ _, _, hc, _ => by simp [scal] at hc
  | .el _ _ _ _, _, hc, _ => by simp [scal] at hc
  | .elo _ _ _ _ _, _, hc, _ => by simp [scal] at hc
  | .any, _, hc, _ => by simp [scal] at hc
theorem plainL_rep {K K' : Kn} {pl pl' : Pl} : ∀ (l : List D) (vs : List Value), scalL l = true → RepL K pl l vs → RepL K' pl' l vs
  | [], _, _, h => by simpa [RepL] using h
  | d :: l, vs, hc, h => by
    simp only [RepL] at h ⊢
    obtain ⟨v, r, h1, h2, h3⟩ := h
    simp only [scalL, Bool.and_eq_true] at hc
    exact ⟨v, r, h1, plain_rep d v hc.1 h2, plainL_rep l r hc.2 h3⟩
end

theorem plain_any {K K' : Kn} {pl pl' : Pl} {d : D} {v : Value} (hp : plain d = true) (h : Rep K pl d v) : Rep K' pl' d v := by
  cases d with
  | agg l =>
    simp only [Rep] at h ⊢
    obtain ⟨cs, h1, h2, h3⟩ := h
    exact ⟨cs, h1, plainL_rep l cs (by simpa [plain] using hp) h2, h3⟩
  | tup l =>
    simp only [Rep] at h ⊢
    obtain ⟨cs, h1, h2⟩ := h
    exact ⟨cs, h1, plainL_rep l cs (by simpa [plain] using hp) h2⟩
  | _ => exact plain_rep _ _ (by simpa [plain] using hp) h


section
variable {P : Program} {gt : Nat → Option (List D)} {f : Nat} {ds ds' : List D} {d : D} {bx bx' bx'' : List Ent}

/-- At the beginning of a call. -/
theorem Inv.start {K : Kn} {pl : Pl} {w : World} (hmod : ∀ b o, K b = some o → w.heap[b]? = some o) (hglob : GlobOk gt K) (htab : Tab K pl w bx) : Inv ⟨Own pl bx, w, K, bx.length, pl, gt⟩ K pl bx w :=
  ⟨Chg.refl _ _, hmod, KLe.refl _, fun b o h => .inl h, htab, fun k e b hk hb => .inl ⟨k, e, hk, hb⟩, Nat.le_refl _, fun k ver x _ h => h, hglob⟩

theorem Own.nil {pl : Pl} {b : Nat} : ¬ Own pl [] b := fun ⟨k, e, h, _⟩ => by simp at h

/-- A pure call, whatever the own memory is. -/
theorem Sp.lift (h : Sp P gt f ds d) (hc : closedL ds = true) : SpM P gt f ds bx d bx := by
  refine ⟨h.1, fun K pl w vs hmod hglob htab hrep => ?_⟩
  refine (h.2 K pl0 w vs hmod hglob ⟨fun k e h => by simp at h, fun i j e f b _ h => by simp at h, fun _ _ _ => rfl⟩ (closedL_rep _ _ hc hrep)).mono ?_
  rintro e w' ⟨v, K', pl', rfl, hI, hr⟩
  have hpl : pl' = pl0 := by funext k ver; exact hI.tab.free k ver (Nat.zero_le _)
  subst hpl
  have hn : ∀ b, ¬ Own pl0 [] b := fun b => Own.nil
  refine ⟨v, K', pl, rfl, ⟨⟨hI.chg.os, hI.chg.tape, hI.chg.output, hI.chg.size, fun k hk _ => hI.chg.block k hk (hn k)⟩, hI.mod, hI.le, fun b o hb => ?_, htab.move hI.le fun b h1 h2 _ => ⟨hI.chg.block b h1 (hn b), ?_⟩, fun k e b hk hb => .inl ⟨k, e, hk, hb⟩, Nat.le_refl _, fun k ver x _ h => h, hI.glob⟩, Rep.mono (KLe.refl _) (PLe.zero _) _ _ hr⟩
  · rcases hI.new b o hb with h | h | h
    · exact .inl h
    · exact absurd h (hn b)
    · exact .inr (.inr h)
  · cases hK : K' b with
    | none => rfl
    | some o =>
      rcases hI.new b o hK with h | h | h
      · have h : K b = some o := h
        rw [h2] at h; cases h
      · exact absurd h (hn b)
      · have : w.heap.size ≤ b := h
        omega

/-- .. to which own rows are lent. -/
theorem Sp.lent {q : List Prop} {o : Bool} (h : Sp P gt f ds' d) (hl : lendL bx ds = some (q, o, ds')) (hq : ∀ p ∈ q, p) (hp : plain d = true) : SpM P gt f ds bx d bx := by
  refine ⟨h.1, fun K pl w vs hmod hglob htab hrep => ?_⟩
  have hle := lendK_le K pl bx w
  refine (h.2 (lendK K pl bx w) pl0 w vs (lendK_mod hmod) (hglob.mono hle) ⟨fun k e h => by simp at h, fun i j e f b _ h => by simp at h, fun _ _ _ => rfl⟩ (lendL_ok htab _ _ _ _ _ hl hq hrep).1).mono ?_
  rintro e w' ⟨v, K', pl', rfl, hI, hr⟩
  have hn : ∀ b, ¬ Own pl0 [] b := fun b => Own.nil
  have hblk : ∀ k, k < w.heap.size → w'.heap[k]? = w.heap[k]? := fun k hk => hI.chg.block k hk (hn k)
  refine ⟨v, K, pl, rfl, ⟨⟨hI.chg.os, hI.chg.tape, hI.chg.output, hI.chg.size, fun k hk _ => hblk k hk⟩, fun b o hb => ?_, KLe.refl _, fun b o hb => .inl hb, htab.move (KLe.refl _) fun b h1 h2 _ => ⟨hblk b h1, h2⟩, fun k e b hk hb => .inl ⟨k, e, hk, hb⟩, Nat.le_refl _, fun k ver x _ h => h, hglob⟩, plain_any hp hr⟩
  have hb' := hmod b o hb
  rw [hblk b (Array.getElem?_eq_some_iff.1 hb').1]; exact hb'

/-- Own rows are given up ahead of a call. -/
theorem SpM.frz {q : List Prop} (h : SpM P gt f ds' bx' d bx'') (hf : frzL bx ds = some (q, ds', bx')) (hq : ∀ p ∈ q, p) : SpM P gt f ds bx d bx'' := by
  refine ⟨h.1, fun K pl w vs hmod hglob htab hrep => ?_⟩
  have hI0 := Inv.start hmod hglob htab
  obtain ⟨K1, h1, h2, h3⟩ := frzL_ok _ hf hq hI0 hrep
  refine (h.2 K1 pl w vs h2.mod h2.glob h2.tab (RepL.mono (KLe.refl _) (PLe.zero _) _ _ h3)).mono ?_
  rintro e w' ⟨v, K', pl', rfl, hI, hr⟩
  obtain ⟨_, _, h6⟩ := h2.then hI
  exact ⟨v, K', pl', rfl, h6, hr⟩

theorem SpM.conv {ds2 : List D} {d2 : D} {bx2 : List Ent} (h : SpM P gt f ds bx d bx') (h1 : ds = ds2) (h2 : d = d2) (h3 : bx' = bx2) : SpM P gt f ds2 bx d2 bx2 := by subst h1; subst h2; subst h3; exact h
theorem Sp.conv {ds2 : List D} {d2 : D} (h : Sp P gt f ds d) (h1 : ds = ds2) (h2 : d = d2) : Sp P gt f ds2 d2 := by subst h1; subst h2; exact h
end

/-! ### Some entries alone are handed on, under other numbers -/
def rho : List Nat → Nat → Nat → Nat
  | [], n, j => n + j
  | k :: _, _, 0 => k
  | _ :: ks, n, j + 1 => rho ks n j

mutual
def renD (ks : List Nat) (n : Nat) : D → D
  | .box k off => .box (rho ks n k) off
  | .boxi k off => .boxi (rho ks n k) off
  | .bsl k b s l => .bsl (rho ks n k) b s l
  | .own k ver => .own (rho ks n k) ver
  | .ownm k ver => .ownm (rho ks n k) ver
  | .elo k ver sz i off => .elo (rho ks n k) ver sz i off
  | .agg l => .agg (renL ks n l)
  | .tup l => .tup (renL ks n l)
  | .fn f l => .fn f (renL ks n l)
  | .int k m => .int k m
  | .bool b => .bool b
  | .str s => .str s
  | .ls sz l => .ls sz l
  | .mp a b => .mp a b
  | .nil => .nil
  | .el sz l i off => .el sz l i off
  | .glob g off => .glob g off
  | .any => .any
def renL (ks : List Nat) (n : Nat) : List D → List D
  | [] => []
  | d :: l => renD ks n d :: renL ks n l
end

def renE (ks : List Nat) (n : Nat) : Ent → Ent
  | .cells l => .cells (renL ks n l)
  | .arr e sz ver rows => .arr e sz ver rows
  | .gone => .gone
def renEs (ks : List Nat) (n : Nat) : List Ent → List Ent
  | [] => []
  | e :: l => renE ks n e :: renEs ks n l

def putAll : List Ent → List Nat → List Ent → List Ent
  | bx, [], es => List.append bx es
  | bx, k :: ks, e :: es => putAll (setE bx k e) ks es
  | bx, _ :: _, [] => bx

def entsN (bx : List Ent) : List Nat → Option (List Ent)
  | [] => some []
  | k :: ks => match entN bx k, entsN bx ks with
    | some e, some l => some (e :: l)
    | _, _ => none

def okKs : List Nat → Bool
  | [] => true
  | k :: ks => bA (bN (hasN ks k)) (okKs ks)

section
theorem renEs_get {ks : List Nat} {n : Nat} : ∀ {l : List Ent} {i : Nat} {e : Ent}, (renEs ks n l)[i]? = some e → ∃ e0, l[i]? = some e0 ∧ e = renE ks n e0
  | [], i, e, h => by simp [renEs] at h
  | x :: l, 0, e, h => by simp [renEs] at h; exact ⟨x, by simp, h.symm⟩
  | x :: l, i + 1, e, h => by simp [renEs] at h; simpa using renEs_get h
theorem renEs_get' {ks : List Nat} {n : Nat} : ∀ {l : List Ent} {i : Nat} {e : Ent}, l[i]? = some e → (renEs ks n l)[i]? = some (renE ks n e)
  | [], i, e, h => by simp at h
  | x :: l, 0, e, h => by simp at h; simp [renEs, h]
  | x :: l, i + 1, e, h => by simp at h; simpa [renEs] using renEs_get' h
theorem renEs_len {ks : List Nat} {n : Nat} : ∀ {l : List Ent}, (renEs ks n l).length = l.length
  | [] => rfl
  | x :: l => by simp [renEs, renEs_len (l := l)]

/-- Which of those handed on is it? -/
def sg : List Nat → Nat → Nat → Option Nat
  | [], n, k => if n ≤ k then some (k - n) else none
  | k0 :: ks, n, k => if k = k0 then some 0 else (sg ks n k).map (· + 1)

theorem okKs_cons {k : Nat} {ks : List Nat} (h : okKs (k :: ks) = true) : k ∉ ks ∧ okKs ks = true := by
  simp only [okKs] at h
  obtain ⟨h1, h2⟩ := bA_iff.1 h
  refine ⟨fun hm => ?_, h2⟩
  have := bN_iff.1 h1
  rw [hasN_iff.2 hm] at this; cases this

theorem rho_mem {n : Nat} : ∀ {ks : List Nat} {j : Nat}, rho ks n j ∈ ks ∨ n ≤ rho ks n j
  | [], j => .inr (by simp [rho])
  | k :: ks, 0 => .inl (by simp [rho])
  | k :: ks, j + 1 => by
    rcases rho_mem (ks := ks) (j := j) (n := n) with h | h
    · exact .inl (by simp [rho, h])
    · exact .inr h

theorem sg_rho {n : Nat} : ∀ {ks : List Nat} {j : Nat}, okKs ks = true → (∀ k ∈ ks, k < n) → sg ks n (rho ks n j) = some j
  | [], j, _, _ => by simp [sg, rho]
  | k :: ks, 0, _, _ => by simp [sg, rho]
  | k :: ks, j + 1, h, hlt => by
    obtain ⟨h1, h2⟩ := okKs_cons h
    have hne : rho ks n j ≠ k := fun e => by
      rcases rho_mem (ks := ks) (j := j) (n := n) with h | h
      · rw [e] at h; exact h1 h
      · have := hlt k (by simp); omega
    simp [sg, rho, hne, sg_rho h2 fun x hx => hlt x (by simp [hx])]

theorem rho_sg {n : Nat} : ∀ {ks : List Nat} {k j : Nat}, sg ks n k = some j → rho ks n j = k
  | [], k, j, h => by
    simp only [sg] at h
    split at h
    · simp at h; simp [rho]; omega
    · cases h
  | k0 :: ks, k, j, h => by
    simp only [sg] at h
    split at h
    · rename_i e; simp at h; subst h; simp [rho, e]
    · cases hs : sg ks n k with
      | none => rw [hs] at h; cases h
      | some j' => rw [hs] at h; simp at h; subst h; simp [rho, rho_sg hs]

theorem rho_ge {n : Nat} : ∀ {ks : List Nat} {j : Nat}, ks.length ≤ j → rho ks n j = n + (j - ks.length)
  | [], j, _ => by simp [rho]
  | k :: ks, 0, h => by simp at h
  | k :: ks, j + 1, h => by simp only [rho]; rw [rho_ge (by simpa using h)]; simp

theorem rho_lt {n : Nat} : ∀ {ks : List Nat} {j : Nat}, j < ks.length → rho ks n j ∈ ks
  | [], j, h => by simp at h
  | k :: ks, 0, h => by simp [rho]
  | k :: ks, j + 1, h => by simp only [rho]; exact List.mem_cons_of_mem _ (rho_lt (by simpa using h))

theorem rho_idx {n : Nat} {k : Nat} : ∀ {ks : List Nat}, k ∈ ks → ∃ j, j < ks.length ∧ rho ks n j = k
  | [], h => by cases h
  | k0 :: ks, h => by
    rcases List.mem_cons.1 h with rfl | h
    · exact ⟨0, by simp, rfl⟩
    · obtain ⟨j, h1, h2⟩ := rho_idx (n := n) h; exact ⟨j + 1, by simp; omega, h2⟩

theorem putAll_get : ∀ {ks : List Nat} {bx es : List Ent} (k : Nat), okKs ks = true → (∀ k ∈ ks, k < bx.length) → ks.length ≤ es.length → (putAll bx ks es)[k]? = match sg ks bx.length k with | some j => es[j]? | none => bx[k]?
  | [], bx, es, k, _, _, _ => by
    simp only [putAll, sg]
    show (bx ++ es)[k]? = _
    rw [List.getElem?_append]
    by_cases h : k < bx.length
    · rw [if_pos h, if_neg (by omega)]
    · rw [if_neg h, if_pos (by omega)]
  | k0 :: ks, bx, [], k, _, _, h => by simp at h
  | k0 :: ks, bx, e :: es, k, hk, hlt, hl => by
    obtain ⟨h1, h2⟩ := okKs_cons hk
    have h0 := hlt k0 (by simp)
    simp only [putAll, setE_eq]
    rw [putAll_get (ks := ks) (bx := bx.set k0 e) k h2 (fun x hx => by rw [List.length_set]; exact hlt x (by simp [hx])) (by simpa using hl)]
    simp only [List.length_set, sg]
    by_cases he : k = k0
    · subst he
      have hn : sg ks bx.length k = none := by
        cases hs : sg ks bx.length k with
        | none => rfl
        | some j =>
          have := rho_sg hs
          rcases rho_mem (ks := ks) (j := j) (n := bx.length) with h | h
          · rw [this] at h; exact absurd h h1
          · omega
      rw [hn]; simp [h0]
    · rw [if_neg he]
      cases hs : sg ks bx.length k with
      | none => simp [List.getElem?_set, Ne.symm he]
      | some j => simp

theorem putAll_len : ∀ {ks : List Nat} {bx es : List Ent}, ks.length ≤ es.length → (putAll bx ks es).length = bx.length + (es.length - ks.length)
  | [], bx, es, _ => by simp only [putAll]; show (bx ++ es).length = _; simp
  | k :: ks, bx, [], h => by simp at h
  | k :: ks, bx, e :: es, h => by simp only [putAll, setE_eq]; rw [putAll_len (by simpa using h)]; simp

theorem entsN_get {bx : List Ent} {n : Nat} : ∀ {ks : List Nat} {es : List Ent}, entsN bx ks = some es → es.length = ks.length ∧ ∀ (j : Nat) (e : Ent), es[j]? = some e → bx[rho ks n j]? = some e
  | [], es, h => by simp [entsN] at h; subst h; exact ⟨rfl, fun j e h => by simp at h⟩
  | k :: ks, es, h => by
    simp only [entsN] at h
    split at h
    · rename_i e l he hl
      cases h
      obtain ⟨h1, h2⟩ := entsN_get (n := n) hl
      refine ⟨by simp [h1], fun j x hx => ?_⟩
      cases j with
      | zero => simp at hx; subst hx; rw [entN_eq] at he; simpa [rho] using he
      | succ j => simp only [rho]; exact h2 j x (by simpa using hx)
    · cases h

mutual
theorem renD_rep {K : Kn} {pl plc : Pl} {ks : List Nat} {n : Nat} (h : ∀ j ver x, pl (rho ks n j) ver = some x → plc j ver = some x) : ∀ (d : D) (v : Value), Rep K pl (renD ks n d) v → Rep K plc d v
  | .box k off, v, hr => by simp only [renD, Rep] at hr ⊢; obtain ⟨b, h1, h2⟩ := hr; exact ⟨b, h _ _ _ h1, h2⟩
  | .boxi k off, v, hr => by simp only [renD, Rep] at hr ⊢; obtain ⟨b, h1, h2⟩ := hr; exact ⟨b, h _ _ _ h1, h2⟩
  | .bsl k b s l, v, hr => by simp only [renD, Rep] at hr ⊢; obtain ⟨b, o, c, h1, h2⟩ := hr; exact ⟨b, o, c, h _ _ _ h1, h2⟩
  | .own k ver, v, hr => by simp only [renD, Rep] at hr ⊢; exact ⟨h _ _ _ hr.1, hr.2⟩
  | .ownm k ver, v, hr => by simp only [renD, Rep] at hr ⊢; exact ⟨h _ _ _ hr.1, hr.2⟩
  | .elo k ver sz i off, v, hr => by simp only [renD, Rep] at hr ⊢; obtain ⟨b, m, c, h1, h2⟩ := hr; exact ⟨b, m, c, h _ _ _ h1, h2⟩
  | .agg l, v, hr => by simp only [renD, Rep] at hr ⊢; obtain ⟨cs, h1, h2, h3⟩ := hr; exact ⟨cs, h1, renL_rep h l cs h2, h3⟩
  | .tup l, v, hr => by simp only [renD, Rep] at hr ⊢; obtain ⟨cs, h1, h2⟩ := hr; exact ⟨cs, h1, renL_rep h l cs h2⟩
  | .fn f l, v, hr => by simp only [renD, Rep] at hr ⊢; obtain ⟨cs, h1, h2⟩ := hr; exact ⟨cs, h1, renL_rep h l cs h2⟩
  | .int _ _, _, hr => by simpa [renD, Rep] using hr
  | .bool _, _, hr => by simpa [renD, Rep] using hr
  | .str _, _, hr => by simpa [renD, Rep] using hr
  | .ls _ _, _, hr => by simpa [renD, Rep] using hr
  | .mp _ _, _, hr => by simpa [renD, Rep] using hr
  | .nil, _, hr => by simpa only [renD, Rep] using hr
  | .el _ _ _ _, _, hr => by simpa [renD, Rep] using hr
  | .glob _ _, _, hr => by simpa [renD, Rep] using hr
  | .any, _, hr => by simp [Rep]
theorem renL_rep {K : Kn} {pl plc : Pl} {ks : List Nat} {n : Nat} (h : ∀ j ver x, pl (rho ks n j) ver = some x → plc j ver = some x) : ∀ (l : List D) (vs : List Value), RepL K pl (renL ks n l) vs → RepL K plc l vs
  | [], vs, hr => by simpa [renL, RepL] using hr
  | d :: l, vs, hr => by
    simp only [renL, RepL] at hr ⊢
    obtain ⟨v, r, h1, h2, h3⟩ := hr
    exact ⟨v, r, h1, renD_rep h d v h2, renL_rep h l r h3⟩
end
mutual
theorem renD_rep' {K : Kn} {pl plc : Pl} {ks : List Nat} {n : Nat} (h : ∀ j ver x, plc j ver = some x → pl (rho ks n j) ver = some x) : ∀ (d : D) (v : Value), Rep K plc d v → Rep K pl (renD ks n d) v
  | .box k off, v, hr => by simp only [renD, Rep] at hr ⊢; obtain ⟨b, h1, h2⟩ := hr; exact ⟨b, h _ _ _ h1, h2⟩
  | .boxi k off, v, hr => by simp only [renD, Rep] at hr ⊢; obtain ⟨b, h1, h2⟩ := hr; exact ⟨b, h _ _ _ h1, h2⟩
  | .bsl k b s l, v, hr => by simp only [renD, Rep] at hr ⊢; obtain ⟨b, o, c, h1, h2⟩ := hr; exact ⟨b, o, c, h _ _ _ h1, h2⟩
  | .own k ver, v, hr => by simp only [renD, Rep] at hr ⊢; exact ⟨h _ _ _ hr.1, hr.2⟩
  | .ownm k ver, v, hr => by simp only [renD, Rep] at hr ⊢; exact ⟨h _ _ _ hr.1, hr.2⟩
  | .elo k ver sz i off, v, hr => by simp only [renD, Rep] at hr ⊢; obtain ⟨b, m, c, h1, h2⟩ := hr; exact ⟨b, m, c, h _ _ _ h1, h2⟩
  | .agg l, v, hr => by simp only [renD, Rep] at hr ⊢; obtain ⟨cs, h1, h2, h3⟩ := hr; exact ⟨cs, h1, renL_rep' h l cs h2, h3⟩
  | .tup l, v, hr => by simp only [renD, Rep] at hr ⊢; obtain ⟨cs, h1, h2⟩ := hr; exact ⟨cs, h1, renL_rep' h l cs h2⟩
  | .fn f l, v, hr => by simp only [renD, Rep] at hr ⊢; obtain ⟨cs, h1, h2⟩ := hr; exact ⟨cs, h1, renL_rep' h l cs h2⟩
  | .int _ _, _, hr => by simpa [renD, Rep] using hr
  | .bool _, _, hr => by simpa [renD, Rep] using hr
  | .str _, _, hr => by simpa [renD, Rep] using hr
  | .ls _ _, _, hr => by simpa [renD, Rep] using hr
  | .mp _ _, _, hr => by simpa [renD, Rep] using hr
  | .nil, _, hr => by simpa only [renD, Rep] using hr
  | .el _ _ _ _, _, hr => by simpa [renD, Rep] using hr
  | .glob _ _, _, hr => by simpa [renD, Rep] using hr
  | .any, _, hr => by simp [renD, Rep]
theorem renL_rep' {K : Kn} {pl plc : Pl} {ks : List Nat} {n : Nat} (h : ∀ j ver x, plc j ver = some x → pl (rho ks n j) ver = some x) : ∀ (l : List D) (vs : List Value), RepL K plc l vs → RepL K pl (renL ks n l) vs
  | [], vs, hr => by simpa [renL, RepL] using hr
  | d :: l, vs, hr => by
    simp only [renL, RepL] at hr ⊢
    obtain ⟨v, r, h1, h2, h3⟩ := hr
    exact ⟨v, r, h1, renD_rep' h d v h2, renL_rep' h l r h3⟩
end

theorem renE_blk {pl plc : Pl} {ks : List Nat} {n j : Nat} (h : ∀ ver, plc j ver = pl (rho ks n j) ver) (e : Ent) : entBlk plc j e = entBlk pl (rho ks n j) (renE ks n e) := by
  cases e <;> simp [entBlk, renE, h]

theorem EntOk.ren {K : Kn} {pl plc : Pl} {w : World} {ks : List Nat} {n j : Nat} (hj : ∀ ver, plc j ver = pl (rho ks n j) ver) (h : ∀ j ver x, pl (rho ks n j) ver = some x → plc j ver = some x) {e : Ent} (he : EntOk K pl w (rho ks n j) (renE ks n e)) : EntOk K plc w j e := by
  cases e with
  | gone => trivial
  | cells l =>
    obtain ⟨b, T, cs, h1, h2, h3, h4, h5⟩ := he
    exact ⟨b, T, cs, by rw [hj]; exact h1, h2, h3, renL_rep h l cs h4, h5⟩
  | arr e sz ver rows =>
    obtain ⟨v, vs, h1, h2, h3, h4, h5, h6⟩ := he
    exact ⟨v, vs, by rw [hj]; exact h1, h2, h3, h4, h5, fun ver' hv => by rw [hj]; exact h6 ver' hv⟩

theorem EntOk.ren' {K : Kn} {pl plc : Pl} {w : World} {ks : List Nat} {n j : Nat} (hj : ∀ ver, plc j ver = pl (rho ks n j) ver) (h : ∀ j ver x, plc j ver = some x → pl (rho ks n j) ver = some x) {e : Ent} (he : EntOk K plc w j e) : EntOk K pl w (rho ks n j) (renE ks n e) := by
  cases e with
  | gone => trivial
  | cells l =>
    obtain ⟨b, T, cs, h1, h2, h3, h4, h5⟩ := he
    exact ⟨b, T, cs, by rw [← hj]; exact h1, h2, h3, renL_rep' h l cs h4, h5⟩
  | arr e sz ver rows =>
    obtain ⟨v, vs, h1, h2, h3, h4, h5, h6⟩ := he
    exact ⟨v, vs, by rw [← hj]; exact h1, h2, h3, h4, h5, fun ver' hv => by rw [← hj]; exact h6 ver' hv⟩

variable {P : Program} {gt : Nat → Option (List D)} {f : Nat} {ds ds' : List D} {d : D} {bx es es' : List Ent}

theorem SpM.own (h : SpM P gt f ds' es d es') (ks : List Nat) (h1 : ds = renL ks (sizeE bx) ds') (h2 : entsN bx ks = some (renEs ks (sizeE bx) es)) (hk : okKs ks = true) :
    SpM P gt f ds bx (renD ks (sizeE bx) d) (putAll bx ks (renEs ks (sizeE bx) es')) := by
  rw [sizeE_eq] at h1 h2 ⊢
  refine ⟨h.1, fun K pl w vs hmod hglob htab hrep => ?_⟩
  subst h1
  obtain ⟨hel, hget⟩ := entsN_get (n := bx.length) h2
  rw [renEs_len] at hel
  -- the numbers are those of entries
  have hlt : ∀ k ∈ ks, k < bx.length := fun k hkm => by
    obtain ⟨j, hj, hjk⟩ := rho_idx (n := bx.length) hkm
    have hj' : j < es.length := by omega
    have := hget j _ (renEs_get' (List.getElem?_eq_getElem hj'))
    rw [hjk] at this
    exact (List.getElem?_eq_some_iff.1 this).1
  let plc : Pl := fun j ver => if j < ks.length then pl (rho ks bx.length j) ver else none
  have hplc : ∀ j ver x, pl (rho ks bx.length j) ver = some x → plc j ver = some x := fun j ver x hx => by
    by_cases hj : j < ks.length
    · simpa [plc, hj] using hx
    · rw [rho_ge (by omega), htab.free _ _ (by omega)] at hx; cases hx
  have hplj : ∀ j, j < ks.length → ∀ ver, plc j ver = pl (rho ks bx.length j) ver := fun j hj ver => by simp [plc, hj]
  have hesk : ∀ j e, es[j]? = some e → j < ks.length ∧ bx[rho ks bx.length j]? = some (renE ks bx.length e) := fun j e he =>
    ⟨by rw [← hel]; exact (List.getElem?_eq_some_iff.1 he).1, hget j _ (renEs_get' he)⟩
  have hinj : ∀ i j, rho ks bx.length i = rho ks bx.length j → i = j := fun i j hij => by
    have h3 := sg_rho (n := bx.length) (j := i) hk hlt
    rw [hij, sg_rho hk hlt] at h3; cases h3; rfl
  have htabc : Tab K plc w es := by
    refine ⟨fun j e he => ?_, fun i j e f b hij hi hj hb hb' => ?_, fun j ver hj => by simp [plc]; omega⟩
    · obtain ⟨h3, h4⟩ := hesk j e he
      exact (htab.ok _ _ h4).ren (hplj j h3) hplc
    · obtain ⟨h3, h4⟩ := hesk i e hi
      obtain ⟨h5, h6⟩ := hesk j f hj
      rw [renE_blk (hplj i h3)] at hb
      rw [renE_blk (hplj j h5)] at hb'
      exact htab.sep _ _ _ _ b (fun e => hij (hinj i j e)) h4 h6 hb hb'
  have hownc : ∀ b, Own plc es b → Own pl bx b := fun b ⟨j, e, he, hb⟩ => by
    obtain ⟨h3, h4⟩ := hesk j e he
    rw [renE_blk (hplj j h3)] at hb
    exact ⟨_, _, h4, hb⟩
  refine (h.2 K plc w vs hmod hglob htabc (renL_rep hplc _ _ hrep)).mono ?_
  rintro e w' ⟨v, K', plc', rfl, hI, hr⟩
  have hle' : es.length ≤ es'.length := hI.len
  let pl' : Pl := fun k ver => match sg ks bx.length k with | some j => plc' j ver | none => pl k ver
  have hpl'j : ∀ j ver, plc' j ver = pl' (rho ks bx.length j) ver := fun j ver => by simp [pl', sg_rho hk hlt]
  have hpl' : ∀ j ver x, plc' j ver = some x → pl' (rho ks bx.length j) ver = some x := fun j ver x hx => by rw [← hpl'j]; exact hx
  have hpl'n : ∀ k, sg ks bx.length k = none → ∀ ver, pl' k ver = pl k ver := fun k hk ver => by simp [pl', hk]
  have hPle : PLe pl pl' := fun k ver x hx => by
    cases hs : sg ks bx.length k with
    | none => rw [hpl'n k hs]; exact hx
    | some j =>
      have hkj := rho_sg hs
      rw [← hkj] at hx ⊢
      rw [← hpl'j]
      by_cases hj : j < ks.length
      · exact hI.keep j ver x (by show j < es.length; omega) (by show plc j ver = some x; rw [hplj j hj]; exact hx)
      · rw [rho_ge (by omega), htab.free _ _ (by omega)] at hx; cases hx
  have hlk : ks.length ≤ (renEs ks bx.length es').length := by rw [renEs_len]; omega
  -- an entry that was not handed on
  have hrest : ∀ k e, sg ks bx.length k = none → bx[k]? = some e → ∀ b, entBlk pl k e = some b → b < w.heap.size ∧ K b = none ∧ ¬ Own plc es b := fun k e hs hk' b hb => by
    obtain ⟨h3, h4⟩ := htab.lt hk' hb
    refine ⟨h3, h4, fun ⟨j, e', he', hb'⟩ => ?_⟩
    obtain ⟨h5, h6⟩ := hesk j e' he'
    rw [renE_blk (hplj j h5)] at hb'
    refine htab.sep k _ _ _ b (fun e => ?_) hk' h6 hb hb'
    rw [e, sg_rho hk hlt] at hs; cases hs
  have hKnone : ∀ b, b < w.heap.size → K b = none → ¬ Own plc es b → K' b = none := fun b h3 h4 h5 => by
    cases hK : K' b with
    | none => rfl
    | some o =>
      rcases hI.new b o hK with h | h | h
      · have h : K b = some o := h
        rw [h4] at h; cases h
      · exact absurd h h5
      · have : w.heap.size ≤ b := h
        omega
  have hcase : ∀ k e, (putAll bx ks (renEs ks bx.length es'))[k]? = some e → (∃ j e0, k = rho ks bx.length j ∧ sg ks bx.length k = some j ∧ es'[j]? = some e0 ∧ e = renE ks bx.length e0) ∨ (sg ks bx.length k = none ∧ bx[k]? = some e) := fun k e hk' => by
    rw [putAll_get k hk hlt hlk] at hk'
    cases hs : sg ks bx.length k with
    | none => rw [hs] at hk'; exact .inr ⟨rfl, hk'⟩
    | some j =>
      rw [hs] at hk'
      obtain ⟨e0, h3, h4⟩ := renEs_get hk'
      exact .inl ⟨j, e0, (rho_sg hs).symm, rfl, h3, h4⟩
  refine ⟨v, K', pl', rfl, ⟨⟨hI.chg.os, hI.chg.tape, hI.chg.output, hI.chg.size, fun k hk' hn => hI.chg.block k hk' fun ho => hn (hownc k ho)⟩, hI.mod, hI.le, fun b o hb => ?_, ⟨fun k e hk' => ?_, fun i j e f b hij hi hj hb hb' => ?_, fun k ver hk' => ?_⟩, fun k e b hk' hb => ?_, ?_, fun k ver x _ hx => hPle _ _ _ hx, hI.glob⟩, renD_rep' hpl' _ _ hr⟩
  · rcases hI.new b o hb with h | h | h
    · exact .inl h
    · exact .inr (.inl (hownc b h))
    · exact .inr (.inr h)
  · rcases hcase k e hk' with ⟨j, e0, rfl, h3, h4, rfl⟩ | ⟨h3, h4⟩
    · exact (hI.tab.ok j e0 h4).ren' (fun ver => hpl'j j ver) hpl'
    · refine (htab.ok k e h4).move hI.le hPle (fun b hb => ?_) (hpl'n k h3)
      obtain ⟨h5, h6, h7⟩ := hrest k e h3 h4 b hb
      exact ⟨hI.chg.block b h5 h7, hKnone b h5 h6 h7⟩
  · have hnew : ∀ j e0 b, es'[j]? = some e0 → entBlk pl' (rho ks bx.length j) (renE ks bx.length e0) = some b → entBlk plc' j e0 = some b := fun j e0 b _ h => by rw [renE_blk (fun ver => hpl'j j ver)]; exact h
    have hold : ∀ k e b, sg ks bx.length k = none → entBlk pl' k e = some b → entBlk pl k e = some b := fun k e b hs h => by rw [← h]; cases e <;> simp [entBlk, hpl'n k hs]
    have hmix : ∀ j e0 k e b, es'[j]? = some e0 → entBlk plc' j e0 = some b → sg ks bx.length k = none → bx[k]? = some e → entBlk pl k e = some b → False := fun j e0 k e b h3 h4 h5 h6 h7 => by
      obtain ⟨h8, h9, h10⟩ := hrest k e h5 h6 b h7
      rcases hI.own j e0 b h3 h4 with h | h
      · exact h10 h
      · have : w.heap.size ≤ b := h
        omega
    rcases hcase i e hi with ⟨i', e0, rfl, h3, h4, rfl⟩ | ⟨h3, h4⟩ <;> rcases hcase j f hj with ⟨j', f0, rfl, h5, h6, rfl⟩ | ⟨h5, h6⟩
    · exact hI.tab.sep i' j' e0 f0 b (fun e => hij (by rw [e])) h4 h6 (hnew _ _ _ h4 hb) (hnew _ _ _ h6 hb')
    · exact hmix i' e0 j f b h4 (hnew _ _ _ h4 hb) h5 h6 (hold _ _ _ h5 hb')
    · exact hmix j' f0 i e b h6 (hnew _ _ _ h6 hb') h3 h4 (hold _ _ _ h3 hb)
    · exact htab.sep i j e f b hij h4 h6 (hold _ _ _ h3 hb) (hold _ _ _ h5 hb')
  · rw [putAll_len hlk, renEs_len] at hk'
    have hkn : bx.length ≤ k := by omega
    cases hs : sg ks bx.length k with
    | none =>
      exfalso
      have := sg_rho (n := bx.length) (j := ks.length + (k - bx.length)) hk hlt
      rw [rho_ge (by omega)] at this
      have e : bx.length + (ks.length + (k - bx.length) - ks.length) = k := by omega
      rw [e, hs] at this; cases this
    | some j =>
      have hkj := rho_sg hs
      have : es'.length ≤ j := by
        by_cases hj : j < ks.length
        · have := hlt _ (rho_lt (n := bx.length) hj); omega
        · rw [rho_ge (by omega)] at hkj; omega
      rw [← hkj, ← hpl'j]
      exact hI.tab.free j ver this
  · rcases hcase k e hk' with ⟨j, e0, rfl, h3, h4, rfl⟩ | ⟨h3, h4⟩
    · rw [← renE_blk (fun ver => hpl'j j ver)] at hb
      rcases hI.own j e0 b h4 hb with h | h
      · exact .inl (hownc b h)
      · exact .inr h
    · left
      refine ⟨k, e, h4, ?_⟩
      rw [← hb]; cases e <;> simp [entBlk, hpl'n k h3]
  · show bx.length ≤ _
    rw [putAll_len hlk]; omega
end

section
variable {Sp : CallP} {gt : Nat → Option (List D)} {n0 : Nat}

theorem loop_ind {α : Type} {c : C} {K : Ex → St → Prop} (S : α → St) (μ : α → Nat) (h : ∀ x, ∀ I : St → Prop, (∀ y, μ y < μ x → I (S y)) → run Sp gt n0 c (thenR (some' n0 I) K) (S x)) (x : α) {st : St} (h0 : st = S x) : run Sp gt n0 (.loop c) K st := by
  subst h0
  intro I hI
  refine .inl ?_
  have key : ∀ n x, μ x = n → I (S x) := by
    intro n
    induction n using Nat.strongRecOn with
    | _ n ih =>
      intro x hx
      exact hI _ (h x I fun y hy => ih (μ y) (hx ▸ hy) y rfl)
  exact key _ x rfl

theorem allP_mono : ∀ {l : List Prop} {p q : Prop}, (p → q) → allP l p → allP l q
  | [], _, _, h, hp => h hp
  | _ :: _, _, _, h, hp => ⟨hp.1, allP_mono h hp.2⟩

theorem goOnR_mono {R R' : St → Prop} (h : ∀ s, R s → R' s) {hs : List Prop} {dst : Option Nat} {g : G} {st : St} : ∀ {r : Res}, goOnR Sp R hs dst g st r → goOnR Sp R' hs dst g st r
  | .bad, hr => hr
  | .ok _ _ _, hr => allP_mono (h _) hr
  | .call _ _ _ _, hr => allP_mono (fun ⟨d, bx', a, b, c⟩ => ⟨d, bx', a, b, h _ c⟩) hr
  | .row _ _ _ _ _, hr => allP_mono (fun ⟨d, d', a, b, c⟩ => ⟨d, d', a, b, h _ c⟩) hr
  | .arr _ _ _ _, hr => allP_mono (fun ⟨d, a, c⟩ => ⟨d, a, h _ c⟩) hr
  | .ask _ _, hr => allP_mono (fun ⟨d, a, c⟩ => ⟨d, a, h _ c⟩) hr
  | .put _ _ _ _, hr => allP_mono (fun ⟨d, a, c⟩ => ⟨d, a, h _ c⟩) hr

theorem runOps_mono {R R' : St → Prop} (h : ∀ s, R s → R' s) : ∀ {os : List O} {st : St}, runOps Sp gt os R st → runOps Sp gt os R' st
  | [], _, hr => h _ hr
  | o :: os, st, hr => by
    simp only [runOps] at hr ⊢
    cases hg : guardO o.dst (guardP st.env o.g) with
    | none => rw [hg] at hr; exact hr
    | some g =>
      rw [hg] at hr
      simp only [goGR] at hr ⊢
      cases hf : fpOk o.fp o.m g st.env with
      | false => rw [hf] at hr; exact hr
      | true => rw [hf] at hr; exact goOnR_mono (R := runOps Sp gt os R) (R' := runOps Sp gt os R') (fun s hs => runOps_mono h hs) hr

theorem run_mono : ∀ {c : C} {K K' : Ex → St → Prop} {st : St}, (∀ e s, K e s → K' e s) → run Sp gt n0 c K st → run Sp gt n0 c K' st
  | .skip, _, _, _, h, hr => h _ _ hr
  | .ret, _, _, _, h, hr => h _ _ hr
  | .exit _, _, _, _, h, hr => h _ _ hr
  | .reg _ ops ks, K, K', st, h, hr => by
    simp only [run] at hr ⊢
    cases hp : plainB st.env with
    | false => rw [hp] at hr; exact hr
    | true => rw [hp] at hr; exact runOps_mono (fun s hs => h _ _ hs) hr
  | .seq a b, K, K', st, h, hr => by
    simp only [run] at hr ⊢
    refine run_mono (fun e s hs => ?_) hr
    cases e with
    | nrm => exact run_mono h hs
    | exit id => exact h _ _ hs
    | ret => exact h _ _ hs
  | .ite x a b, K, K', st, h, hr => by
    simp only [run] at hr ⊢
    cases he : evX st.env [] x with
    | none => rw [he] at hr; exact hr
    | some d =>
      rw [he] at hr
      cases d <;> try (exact hr)
      exact ⟨fun t => run_mono h (hr.1 t), fun t => run_mono h (hr.2 t)⟩
  | .blk id c, K, K', st, h, hr => by
    simp only [run] at hr ⊢
    refine run_mono (fun e s hs => ?_) hr
    cases e with
    | nrm => exact h _ _ hs
    | ret => exact h _ _ hs
    | exit j =>
      simp only [blkK] at hs ⊢
      cases hj : j == id with
      | true => rw [hj] at hs; exact h _ _ hs
      | false => rw [hj] at hs; exact h _ _ hs
  | .loop c, K, K', st, h, hr => by
    simp only [run] at hr ⊢
    intro I hI
    refine hr I fun s hs => hI s (run_mono (fun e s hs => ?_) hs)
    cases e with
    | nrm => exact hs
    | exit id => exact h _ _ hs
    | ret => exact h _ _ hs

theorem run_unroll {c : C} {K : Ex → St → Prop} {st : St} (h : run Sp gt n0 c (thenR (run Sp gt n0 (.loop c) K) K) st) : run Sp gt n0 (.loop c) K st := by
  intro I hI
  refine .inl (hI st (run_mono (fun e s hs => ?_) h))
  cases e with
  | nrm => exact hs I hI
  | exit id => exact hs
  | ret => exact hs

/-- What is between two pieces, in one's own words. -/
theorem run_cut {a b : C} {K : Ex → St → Prop} {st : St} (M : Ex → St → Prop) (h : run Sp gt n0 a M st) (hk : ∀ e s, M e s → thenR (run Sp gt n0 b K) K e s) : run Sp gt n0 (.seq a b) K st := by
  simp only [run]
  exact run_mono hk h

def C.hd : C → C
  | .seq a _ => a
  | c => c
def C.tl : C → C
  | .seq _ b => b
  | c => c
def isSeq : C → Bool
  | .seq .. => true
  | _ => false
/-- The first piece, up to this state. -/
theorem run_step {c : C} {K : Ex → St → Prop} {st : St} (t : St) (h : run Sp gt n0 c.hd (thenR (· = t) K) st) (hk : run Sp gt n0 c.tl K t) (hc : isSeq c = true := by rfl) : run Sp gt n0 c K st := by
  cases c with
  | seq a b =>
    refine run_cut _ h fun e s hs => ?_
    cases e with
    | nrm => rw [show s = t from hs]; exact hk
    | exit j => exact hs
    | ret => exact hs
  | _ => cases hc

/-- .. up to one of these states. -/
theorem run_steps {α : Type} {c : C} {K : Ex → St → Prop} {st : St} (T : α → St) (h : run Sp gt n0 c.hd (thenR (fun s => ∃ a, s = T a) K) st) (hk : ∀ a, run Sp gt n0 c.tl K (T a)) (hc : isSeq c = true := by rfl) : run Sp gt n0 c K st := by
  cases c with
  | seq a b =>
    refine run_cut _ h fun e s hs => ?_
    cases e with
    | nrm => obtain ⟨x, hx⟩ := hs; rw [show s = T x from hx]; exact hk x
    | exit j => exact hs
    | ret => exact hs
  | _ => cases hc
/-- What a test leaves in a slot, if it does. -/
def leftE (n : Nat) : Option Bool → Env
  | none => []
  | some b => [(n, [], .bool b)]

theorem thenR_nrm (R : St → Prop) (K : Ex → St → Prop) (st : St) : thenR R K .nrm st = R st := rfl
theorem thenR_exit (R : St → Prop) (K : Ex → St → Prop) (j : Nat) (st : St) : thenR R K (.exit j) st = K (.exit j) st := rfl
theorem thenR_ret (R : St → Prop) (K : Ex → St → Prop) (st : St) : thenR R K .ret st = K .ret st := rfl

theorem again {I : St → Prop} {s s' : St} (h : I s') (h1 : subE s.env s'.env) (h2 : subB s.bx s'.bx) (h3 : lowE (sizeE s'.bx) s'.env = true) (h4 : lowB (sizeE s'.bx) s'.bx = true) (h0 : Nat.ble n0 (sizeE s'.bx) = true := by rfl) : some' n0 I s := .inr ⟨s', ⟨h0, h1, h2, h3, h4⟩, h⟩
end

/-- The first loop's body. -/
def C.lp : C → Option C
  | .loop c => some c
  | .seq a b | .ite _ a b => match a.lp with | some c => some c | none => b.lp
  | .blk _ c => c.lp
  | _ => none


theorem Sp_of {P : Program} {gt : Nat → Option (List D)} (hm : P.follows .mixedOrders = true) {f : FuncId} {fn : Func} (c : C) (rs : List R) (hf : P.funcs[f]? = some fn) (hnm : (fn.name == "runtime.NumGoroutine") = false) (hc : (fn.body.bind fun code => compC P fn.ntmps code c) = some c.bare) (hr : compRs P fn.results.toList = some rs)
    {ds : List D} {d : D} (hn : Nat.ble ds.length fn.ntmps = true) (h : run (SpM P gt) gt 0 c (retK rs (· = d)) ⟨env0 0 ds, []⟩) : Sp P gt f ds d := by
  refine SpM_of_run hm hf hnm hc hr (Nat.le_of_ble_eq_true hn) (Ft := fun d1 bx1 => retD (· = d) (lend bx1 d1)) ?_ fun d1 bx1 hft => ?_
  · refine run_mono (fun e s hs => ?_) h
    have key : retD (· = d) (lendO s.bx (resL s rs)) → atRet (fun d1 bx1 => retD (· = d) (lend bx1 d1)) s.bx (resL s rs) := by
      cases resL s rs with
      | none => exact id
      | some l => exact id
    cases e with
    | exit id => exact hs
    | nrm => exact key hs
    | ret => exact key hs
  · obtain ⟨q, b, d', h1, h2, rfl⟩ := retD_allP hft
    exact Rt.lend h1 h2

/-- .. over own memory. -/
theorem SpM_of {P : Program} {gt : Nat → Option (List D)} (hm : P.follows .mixedOrders = true) {f : FuncId} {fn : Func} (c : C) (rs : List R) (hf : P.funcs[f]? = some fn) (hnm : (fn.name == "runtime.NumGoroutine") = false) (hc : (fn.body.bind fun code => compC P fn.ntmps code c) = some c.bare) (hr : compRs P fn.results.toList = some rs)
    {ds : List D} {d : D} {bx bx' : List Ent} (hn : Nat.ble ds.length fn.ntmps = true) (h : run (SpM P gt) gt (sizeE bx) c (retG rs (fun d1 bx1 => Rt (sizeE bx) bx1 d1 d bx')) ⟨env0 0 ds, bx⟩) : SpM P gt f ds bx d bx' := by
  rw [sizeE_eq] at h
  exact SpM_of_run hm hf hnm hc hr (Nat.le_of_ble_eq_true hn) h fun d1 bx1 hft => hft

/-! ### At a call -/
section
variable {P : Program} {gt : Nat → Option (List D)} {hs : List Prop} {f : Nat} {ds : List D} {dst : Option Nat} {g : G} {os : List O} {st : St} {K : St → Prop}

theorem impP_imp {hs : List Prop} {p q : Prop} (h : p → q) (hp : impP hs p) : impP hs q := by
  induction hs with
  | nil => exact h hp
  | cons x hs ih => exact fun hx => ih (hp hx)

theorem call_pure {eff : Bool} {d : D} (h : impP hs (Sp P gt f ds d)) (hk : runOps (SpM P gt) gt os K ⟨putE dst g d st.env, st.bx⟩) (hc : closedL ds = true := by rfl) : atCall (SpM P gt) gt hs eff f ds dst g os st K :=
  ⟨d, st.bx, impP_imp (fun h => Sp.lift h hc) h, fun _ => rfl, hk⟩

theorem call_lent {eff : Bool} {d : D} {ds' : List D} {q : List Prop} {o : Bool} (h : impP hs (Sp P gt f ds' d)) (hl : lendL st.bx ds = some (q, o, ds')) (hq : allP q True) (hp : plain d = true) (hk : runOps (SpM P gt) gt os K ⟨putE dst g d st.env, st.bx⟩) : atCall (SpM P gt) gt hs eff f ds dst g os st K :=
  ⟨d, st.bx, impP_imp (fun h => Sp.lent h hl (allP_split hq).1 hp) h, fun _ => rfl, hk⟩

theorem call_frz {d : D} {ds' : List D} {q : List Prop} {bx' bx'' : List Ent} (hf : frzL st.bx ds = some (q, ds', bx')) (hq : allP q True) (h : impP hs (SpM P gt f ds' bx' d bx'')) (hk : runOps (SpM P gt) gt os K ⟨putE dst g d st.env, bx''⟩) : atCall (SpM P gt) gt hs true f ds dst g os st K :=
  ⟨d, bx'', impP_imp (fun h => SpM.frz h hf (allP_split hq).1) h, nofun, hk⟩

theorem call_own (ks : List Nat) {ds' : List D} {es es' : List Ent} {d : D} (h : impP hs (SpM P gt f ds' es d es')) (h1 : ds = renL ks (sizeE st.bx) ds') (h2 : entsN st.bx ks = some (renEs ks (sizeE st.bx) es))
    (hk : runOps (SpM P gt) gt os K ⟨putE dst g (renD ks (sizeE st.bx) d) st.env, putAll st.bx ks (renEs ks (sizeE st.bx) es')⟩) (hks : okKs ks = true := by rfl) : atCall (SpM P gt) gt hs true f ds dst g os st K :=
  ⟨_, _, impP_imp (fun h => SpM.own h ks h1 h2 hks) h, nofun, hk⟩
end
end Go.AM
