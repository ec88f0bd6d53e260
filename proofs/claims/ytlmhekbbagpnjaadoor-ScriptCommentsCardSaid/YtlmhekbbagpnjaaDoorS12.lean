
/- Chapter 63: the document reads the same. -/
import Derived.Test.YtlmhekbbagpnjaaDoorS11
set_option linter.all false
namespace Go.AM
open Go Go.Proofs Go.RowKit

/-- Alike: the same, or both beyond all bounds. -/
def Alike (x y : Int) : Prop := x = y ∨ (inR x = false ∧ inR y = false)
theorem num_alike {w : Bs} (h : isNum w = true) : Alike (numP w) (numR w) := by
  simp only [isNum, Bool.and_eq_true, Bool.not_eq_true', badN, Bool.or_eq_false_iff, decide_eq_false_iff_not] at h
  obtain ⟨⟨h1, h2⟩, h3⟩ := h
  unfold numP numR magR
  by_cases hl : (digs w).length ≤ 12
  · have hv := valA_lt (digs w) 0 0 h3 (by decide)
    have h4 : 10 ^ (0 + (digs w).length) ≤ 10 ^ 12 := Nat.pow_le_pow_right (by decide) (by omega)
    have h5 : (10 : Nat) ^ 12 = 1000000000000 := by decide
    left
    rw [if_pos hl]
    cases belowB w
    · simp only [Bool.false_eq_true, if_false]; rw [if_pos (by omega)]
    · simp only [if_true]; rw [if_pos (by omega)]
  · right
    rw [if_neg hl]
    have hge : 1000000000000 ≤ valA 0 (digs w) := by
      match hd : digs w, h1 with
      | c :: r, _ =>
        rw [hd] at h2 h3 hl
        have hlt : (1 : Int) < ((c :: r).length : Int) := by omega
        simp only [List.getD_cons_zero, hlt, decide_true, Bool.or_true, Bool.and_true, decide_eq_false_iff_not] at h2
        simp only [allDg, List.all_cons, Bool.and_eq_true] at h3
        have hc := h3.1
        simp only [dg, Bool.not_eq_true', Bool.or_eq_false_iff, decide_eq_false_iff_not] at hc
        have := valA_ge r (0 * 10 + (c.toNat - 48)) 0 (by rw [Nat.pow_zero]; omega)
        rw [valA_cons]
        have h4 : 10 ^ 12 ≤ 10 ^ (0 + r.length) := Nat.pow_le_pow_right (by decide) (by simp at hl; omega)
        have h5 : (10 : Nat) ^ 12 = 1000000000000 := by decide
        omega
    have big : ∀ n : Int, 1000000000000 ≤ n ∨ n ≤ -1000000000000 → inR n = false := fun n hn => by
      unfold inR
      rcases hn with hn | hn
      · have : ¬ n ≤ 4294967295 := by omega
        simp [this]
      · have : ¬ -2147483648 ≤ n := by omega
        simp [this]
    constructor
    · apply big
      cases belowB w
      · simp only [Bool.false_eq_true, if_false]; split <;> omega
      · simp only [if_true]; split <;> omega
    · apply big
      cases belowB w
      · simp
      · simp
def AlikeL : List Int → List Int → Prop
  | [], [] => True
  | x :: l, y :: r => Alike x y ∧ AlikeL l r
  | _, _ => False
theorem AlikeL.len : ∀ {l r : List Int}, AlikeL l r → l.length = r.length
  | [], [], _ => rfl
  | x :: l, y :: r, h => by simp [AlikeL.len h.2]
  | [], _ :: _, h => h.elim
  | _ :: _, [], h => h.elim
theorem AlikeL.snoc : ∀ {l r : List Int} {x y : Int}, AlikeL l r → Alike x y → AlikeL (l ++ [x]) (r ++ [y])
  | [], [], _, _, _, h => ⟨h, trivial⟩
  | a :: l, b :: r, _, _, h1, h2 => ⟨h1.1, AlikeL.snoc h1.2 h2⟩
  | [], _ :: _, _, _, h, _ => h.elim
  | _ :: _, [], _, _, h, _ => h.elim
theorem AlikeL.eq : ∀ {l r : List Int}, AlikeL l r → allR l = true → l = r
  | [], [], _, _ => rfl
  | x :: l, y :: r, h, ha => by
    simp only [allR, List.all_cons, Bool.and_eq_true] at ha
    rcases h.1 with h1 | h1
    · rw [h1, AlikeL.eq h.2 ha.2]
    · rw [h1.1] at ha; cases ha.1
  | [], _ :: _, h, _ => h.elim
  | _ :: _, [], h, _ => h.elim
theorem AlikeL.bad : ∀ {l r : List Int}, AlikeL l r → allR l = false → allR r = false
  | [], [], _, h => h
  | x :: l, y :: r, h, ha => by
    simp only [allR, List.all_cons] at ha ⊢
    rcases h.1 with h1 | h1
    · rw [← h1]
      cases hx : inR x with
      | false => rfl
      | true => rw [hx, Bool.true_and] at ha; rw [Bool.true_and]; exact AlikeL.bad h.2 ha
    · rw [h1.2]; rfl
  | [], _ :: _, h, _ => h.elim
  | _ :: _, [], h, _ => h.elim
theorem rdB_alike {a : Int} : ∀ (l : List Bs) (i : Nat) (ns ns' : List Int) (ws : List Bs), AlikeL ns ns' → (rdB numP a l i ns ws).1 = (rdB numR a l i ns' ws).1 ∧ AlikeL (rdB numP a l i ns ws).2.1 (rdB numR a l i ns' ws).2.1 ∧ (rdB numP a l i ns ws).2.2 = (rdB numR a l i ns' ws).2.2
  | [], _, _, _, _, h => ⟨rfl, h, rfl⟩
  | w :: l, i, ns, ns', ws, h => by
    unfold rdB
    by_cases h1 : decide ((i : Int) = a) = true
    · rw [if_pos h1, if_pos h1]; exact rdB_alike l _ _ _ _ h
    · rw [if_neg h1, if_neg h1]
      by_cases h2 : isNum w = true
      · rw [if_pos h2, if_pos h2]; exact rdB_alike l _ _ _ _ (h.snoc (num_alike h2))
      · rw [if_neg h2, if_neg h2]; exact ⟨rfl, h, rfl⟩
theorem rdB_shift {f : Bs → Int} {a : Int} : ∀ (l : List Bs) (i : Nat) (ns : List Int) (ws : List Bs), rdB f (a + 1) l (i + 1) ns ws = rdB f a l i ns ws
  | [], _, _, _ => rfl
  | w :: l, i, ns, ws => by
    unfold rdB
    rw [rdB_shift l, rdB_shift l, show decide (((i + 1 : Nat) : Int) = a + 1) = decide ((i : Int) = a) from decide_eq_decide.2 (by omega)]
theorem rdB_none {f : Bs → Int} {a a' : Int} (h : a < 0) (h' : a' < 0) : ∀ (l : List Bs) (i j : Nat) (ns : List Int) (ws : List Bs), rdB f a l i ns ws = rdB f a' l j ns ws
  | [], _, _, _, _ => rfl
  | w :: l, i, j, ns, ws => by
    unfold rdB
    rw [if_neg (show ¬ decide ((i : Int) = a) = true by simp; omega), if_neg (show ¬ decide ((j : Int) = a') = true by simp; omega), rdB_none h h' l (i + 1) (j + 1)]
theorem rdB_full {f : Bs → Int} {a : Int} : ∀ (l : List Bs) (i : Nat) (ns : List Int) (ws : List Bs), (rdB f a l i ns ws).1 = true → (rdB f a l i ns ws).2.1.length + (rdB f a l i ns ws).2.2.length = ns.length + ws.length + l.length
  | [], _, ns, ws, _ => by simp [rdB]
  | w :: l, i, ns, ws, h => by
    unfold rdB at h ⊢
    by_cases h1 : decide ((i : Int) = a) = true
    · rw [if_pos h1] at h ⊢
      have := rdB_full l _ _ _ h; simp at this ⊢; omega
    · rw [if_neg h1] at h ⊢
      by_cases h2 : isNum w = true
      · rw [if_pos h2] at h ⊢
        have := rdB_full l _ _ _ h; simp at this ⊢; omega
      · rw [if_neg h2] at h; cases h
theorem builtB_len {line op : Int} {ns ns' : List Int} {ws : List Bs} (h : ns.length = ns'.length) : builtB ⟨line, op, ns, ws⟩ = builtB ⟨line, op, ns', ws⟩ := by
  unfold builtB; dsimp only; rw [h]

/-- What is read, and what is wrong with it, is alike. -/
def Same2 (x y : Cm × Int) : Prop := x.2 = y.2 ∧ (x.2 = 0 → x.1 = y.1)
def endP (k : Nat) (r : Bool × List Int × List Bs) : Cm × Int := match r with
  | (false, _, _) => (cm0, 2)
  | (true, ns, ws) => if builtB ⟨0, k, ns, ws⟩ then (⟨0, k, ns, ws⟩, 0) else (cm0, 2)
def endR (k : Nat) (r : Bool × List Int × List Bs) : Cm × Int := match r with
  | (false, ns, ws) => (⟨0, k, ns, ws⟩, 2)
  | (true, ns, ws) => if !formB ⟨0, k, ns, ws⟩ then (⟨0, k, ns, ws⟩, 2) else if !rangeB ⟨0, k, ns, ws⟩ then (⟨0, k, ns, ws⟩, 1) else (⟨0, k, ns, ws⟩, 0)
def chkP (first : Bool) (x : Cm × Int) : Cm × Int := if decide (x.2 = 0) then (x.1, checkS x.1 first) else x
def chkR (first : Bool) (x : Cm × Int) : Cm × Int := if decide (x.2 = 0) then (if (decide (x.1.op = 0) == first) then x else (x.1, 8)) else x
theorem readP_some {s : Bs} {k : Nat} (h : opS ((cutL 32 s).getD 0 []) = some k) : readP s = endP k (rdB numP (atP k) ((cutL 32 s).drop 1) 0 [] []) := by unfold readP; rw [h]; rfl
theorem readR_some {s : Bs} {k : Nat} (h : opS ((cutL 32 s).getD 0 []) = some k) : readR s = endR k (rdB numR (atR k ((cutL 32 s).drop 1).length) ((cutL 32 s).drop 1) 1 [] []) := by unfold readR; rw [h]; rfl
theorem Same2.two {first : Bool} {x y : Cm × Int} (h : x.2 = 2) (h' : y.2 = 2) : Same2 (chkP first x) (chkR first y) := by
  obtain ⟨x1, x2⟩ := x
  obtain ⟨y1, y2⟩ := y
  dsimp only at h h'
  subst h h'
  exact ⟨rfl, fun h => by cases h⟩
theorem line_end {k : Nat} (hk : k < 16) {first : Bool} {ns ns' : List Int} {ws : List Bs} (h : AlikeL ns ns') : Same2 (chkP first (endP k (true, ns, ws))) (chkR first (endR k (true, ns', ws))) := by
  unfold endP endR
  dsimp only
  rw [form_built (c := ⟨0, k, ns', ws⟩) hk rfl, builtB_len (ns := ns) (ns' := ns') h.len]
  cases hb : builtB ⟨0, k, ns', ws⟩ with
  | false => exact Same2.two rfl rfl
  | true =>
    simp only [if_true, Bool.not_true, Bool.false_eq_true, if_false]
    have hr : rangeB ⟨0, k, ns, ws⟩ = rangeB ⟨0, k, ns', ws⟩ := by
      cases ha : allR ns with
      | true => rw [h.eq ha]
      | false => rw [rangeB_bad (c := ⟨0, k, ns, ws⟩) hk rfl ha, rangeB_bad (c := ⟨0, k, ns', ws⟩) hk rfl (h.bad ha)]
    unfold chkP checkS
    rw [hr]
    cases hrb : rangeB ⟨0, k, ns', ws⟩ with
    | false => exact ⟨rfl, fun h => by cases h⟩
    | true =>
      have ha : allR ns = true := by
        cases ha : allR ns with
        | true => rfl
        | false => rw [rangeB_bad (c := ⟨0, k, ns', ws⟩) hk rfl (h.bad ha)] at hrb; cases hrb
      have he := h.eq ha
      subst he
      unfold chkR
      by_cases h0 : (k : Int) = 0
      · have h0' : k = 0 := by omega
        subst h0'
        cases first <;> simp [Same2]
      · have h0' : ¬ k = 0 := by omega
        cases first <;> simp [Same2, h0']
theorem line_same (first : Bool) (s : Bs) : Same2 (lineP first s) (lineR first s) := by
  show Same2 (chkP first (readP s)) (chkR first (readR s))
  cases hop : opS ((cutL 32 s).getD 0 []) with
  | none =>
    unfold readP readR
    rw [hop]
    exact ⟨rfl, fun h => by cases h⟩
  | some k =>
    obtain ⟨hk, _⟩ := opS_some hop
    rw [readP_some hop, readR_some hop]
    generalize (cutL 32 s).drop 1 = l
    by_cases hat : atR k l.length = atP k + 1 ∨ (atR k l.length < 0 ∧ atP k < 0)
    · have e : rdB numR (atR k l.length) l 1 [] [] = rdB numR (atP k) l 0 [] [] := by
        rcases hat with h | ⟨h, h'⟩
        · rw [h]; exact rdB_shift l 0 [] []
        · exact rdB_none h h' l 1 0 [] []
      rw [e]
      have ha := rdB_alike (a := atP k) l 0 [] [] [] trivial
      rcases h1 : rdB numP (atP k) l 0 [] [] with ⟨b, ns, ws⟩
      rcases h2 : rdB numR (atP k) l 0 [] [] with ⟨b', ns', ws'⟩
      rw [h1, h2] at ha
      obtain ⟨h5, h3, h4⟩ := ha
      dsimp only at h3 h4 h5
      subst h4 h5
      cases b with
      | false => exact Same2.two rfl rfl
      | true => exact line_end hk h3
    · have hk2 : (sh k).least = 1 ∧ (sh k).most = 1 ∧ ¬ (sh k).word = 0 ∧ l.length ≠ 2 := by
        rcases sixteen hk with rfl | rfl | rfl | rfl | rfl | rfl | rfl | rfl | rfl | rfl | rfl | rfl | rfl | rfl | rfl | rfl <;>
          simp [atR, atP, fewW, sh, shL] at hat ⊢
        · omega
        · omega
      have hbad : ∀ (f : Bs → Int) (a : Int) (i : Nat), (rdB f a l i [] []).1 = true → builtB ⟨0, k, (rdB f a l i [] []).2.1, (rdB f a l i [] []).2.2⟩ = false := fun f a i h => by
        have := rdB_full l i [] [] h
        simp only [List.length_nil, Nat.zero_add] at this
        obtain ⟨h1, h2, h3, h4⟩ := hk2
        unfold builtB
        rw [show ((⟨0, k, (rdB f a l i [] []).2.1, (rdB f a l i [] []).2.2⟩ : Cm).op).toNat = k from rfl, h1, h2]
        dsimp only
        split
        · rfl
        · rename_i h5
          simp only [Bool.or_eq_true, decide_eq_true_eq, not_or] at h5
          rw [if_neg (by simpa using h3)]
          have : ¬ (((rdB f a l i [] []).2.2.length : Int) = 1) := by omega
          simp [this]
      have hb1 := hbad numP (atP k) 0
      have hb2 := hbad numR (atR k l.length) 1
      apply Same2.two
      · rcases h1 : rdB numP (atP k) l 0 [] [] with ⟨b, ns, ws⟩
        rw [h1] at hb1
        unfold endP
        cases b with
        | false => rfl
        | true => dsimp only; rw [hb1 rfl]; rfl
      · rcases h2 : rdB numR (atR k l.length) l 1 [] [] with ⟨b', ns', ws'⟩
        rw [h2] at hb2
        unfold endR
        cases b' with
        | false => rfl
        | true =>
          dsimp only
          rw [form_built (c := ⟨0, k, ns', ws'⟩) hk rfl, hb2 rfl]; rfl
theorem goP_same : ∀ (l : List Bs) (i : Nat) (acc : List Cm), goP lineP l i acc = goP lineR l i acc
  | [], _, _ => rfl
  | s :: l, i, acc => by
    obtain ⟨h1, h2⟩ := line_same (decide ((acc.length : Int) = 0)) s
    have e : goP lineP (s :: l) i acc = if skipB s then goP lineR l (i + 1) acc
      else if decide ((lineP (decide ((acc.length : Int) = 0)) s).2 = 0) then
        if decide (1000 ≤ (acc.length : Int)) then ([], (i : Int) + 1, 5)
        else goP lineR l (i + 1) (acc ++ [{ (lineP (decide ((acc.length : Int) = 0)) s).1 with line := (i : Int) + 1 }])
      else ([], (i : Int) + 1, (lineP (decide ((acc.length : Int) = 0)) s).2) := by
      rw [goP, goP_same l, goP_same l]
    rw [e, goP, ← h1]
    by_cases h : (lineP (decide ((acc.length : Int) = 0)) s).2 = 0
    · rw [h2 h]
    · simp only [h, decide_false, Bool.false_eq_true, if_false]
theorem parse_same (s : Bs) : parseW lineP s = parseW lineR s := by unfold parseW; rw [goP_same]
end Go.AM
