
/- Chapter 63: what Print gives, Parse takes; and back. -/
import Derived.Test.YtlmhekbbagpnjaaDoorS32
import Derived.Test.YtlmhekbbagpnjaaDoorS25
set_option linter.all false
namespace Go.AM
open Go Go.Proofs Go.RowKit

/-- Right commands, the first of them at this place. -/
def okL : Nat → List Cm → Prop
  | _, [] => True
  | i, c :: l => ((0 ≤ c.op ∧ c.op ≤ 15) ∧ chkW c (decide ((i : Int) = 0)) = 0) ∧ okL (i + 1) l
def textL : List Cm → Bs
  | [] => []
  | c :: l => (textP c ++ [10]) ++ textL l
def numL : Nat → List Cm → List Cm
  | _, [] => []
  | i, c :: l => { c with line := (i : Int) + 1 } :: numL (i + 1) l
theorem okL_app : ∀ {l m : List Cm} {i : Nat}, okL i l → okL (i + l.length) m → okL i (l ++ m)
  | [], m, i, _, h => by simpa using h
  | c :: l, m, i, h, h' => by
    refine ⟨h.1, okL_app (i := i + 1) h.2 ?_⟩
    rw [List.length_cons] at h'
    rwa [show i + 1 + l.length = i + (l.length + 1) by omega]
theorem okL_pos : ∀ {m : List Cm} {i j : Nat}, okL i m → 0 < i → 0 < j → okL j m
  | [], _, _, _, _, _ => trivial
  | c :: m, i, j, h, hi, hj => by
    refine ⟨?_, okL_pos h.2 (by omega) (by omega)⟩
    have e1 : decide ((i : Int) = 0) = false := by simp; omega
    have e2 : decide ((j : Int) = 0) = false := by simp; omega
    have := h.1
    rw [e1] at this
    rwa [e2]
theorem textL_app : ∀ (l m : List Cm), textL (l ++ m) = textL l ++ textL m
  | [], m => rfl
  | c :: l, m => by simp [textL, textL_app l m]
theorem numL_len : ∀ (l : List Cm) (i : Nat), (numL i l).length = l.length
  | [], _ => rfl
  | c :: l, i => by simp [numL, numL_len l]
theorem numL_at : ∀ {l : List Cm} {i j : Nat} {c : Cm}, (numL i l)[j]? = some c → c.line = (i : Int) + j + 1
  | [], i, j, c, h => by simp [numL] at h
  | x :: l, i, 0, c, h => by simp [numL] at h; rw [← h]; simp
  | x :: l, i, j + 1, c, h => by
    simp only [numL, List.getElem?_cons_succ] at h
    rw [numL_at h]; omega
theorem numL_same : ∀ (l : List Cm) (i : Nat), sameB false (numL i l) l = true ∧ sameB false l (numL i l) = true
  | [], _ => ⟨rfl, rfl⟩
  | c :: l, i => by
    obtain ⟨h1, h2⟩ := numL_same l (i + 1)
    simp [numL, sameB, sameC, bN, h1, h2]
theorem numL_sizes {p : List Int → List Bs → Prop} : ∀ {l : List Cm} {i : Nat}, (∀ c ∈ l, p c.nums c.words) → ∀ c ∈ numL i l, p c.nums c.words
  | [], _, _, c, h => by simp [numL] at h
  | x :: l, i, hp, c, h => by
    simp only [numL, List.mem_cons] at h
    rcases h with rfl | h
    · exact hp x (by simp)
    · exact numL_sizes (fun y hy => hp y (List.mem_cons_of_mem _ hy)) c h

/-- A right command. -/
theorem chk_ok {c : Cm} {b : Bool} (ho : 0 ≤ c.op ∧ c.op ≤ 15) (h : chkW c b = 0) : ∃ k : Nat, k < 16 ∧ c.op = k ∧ builtB c = true ∧ allR c.nums = true ∧ checkS c b = 0 := by
  have hb : builtB c = true := by
    cases hb : builtB c with
    | true => rfl
    | false => unfold chkW at h; rw [hb] at h; simp at h
  have hc : checkS c b = 0 := by unfold chkW at h; rw [hb] at h; simpa using h
  exact ⟨c.op.toNat, by omega, by omega, hb, checkS_allR (k := c.op.toNat) (by omega) (by omega) hc, hc⟩
theorem checkS_line {c : Cm} {n : Int} {b : Bool} : checkS { c with line := n } b = checkS c b := rfl
theorem builtB_line {c : Cm} {n : Int} : builtB { c with line := n } = builtB c := rfl
theorem chkW_line {c : Cm} {n : Int} {b : Bool} : chkW { c with line := n } b = chkW c b := rfl
theorem textP_line {c : Cm} {n : Int} : textP { c with line := n } = textP c := rfl
theorem line_text {c : Cm} {b : Bool} (b' : Bool) (ho : 0 ≤ c.op ∧ c.op ≤ 15) (h : chkW c b = 0) : lineP b' (textP c) = ({ c with line := 0 }, checkS c b') := by
  obtain ⟨k, hk, hop, hb, hr, hc⟩ := chk_ok ho h
  have hrd := read_text hk hop hb hr
  have e : (⟨0, (k : Int), c.nums, c.words⟩ : Cm) = { c with line := 0 } := by rw [hop]
  rw [e] at hrd
  unfold lineP
  rw [hrd]; rfl
theorem text_facts {c : Cm} {b : Bool} (ho : 0 ≤ c.op ∧ c.op ≤ 15) (h : chkW c b = 0) : (10 : UInt8) ∉ textP c ∧ skipB (textP c) = false := by
  obtain ⟨k, hk, hop, hb, hr, hc⟩ := chk_ok ho h
  have hko : c.op.toNat = k := by rw [hop]; rfl
  have hw := words_no hk hop hb (.inr rfl)
  unfold textP
  rw [hko]
  refine ⟨no_join (by decide) _ hw, ?_⟩
  rw [wordsP_eq hk]
  obtain ⟨_, _, n1, n2, _⟩ := name_facts hk
  have hx : ∃ r, Lib.join ((sh k).name :: tailW k c.nums (c.words.getD 0 [])) [32] = (sh k).name ++ r := by
    cases tailW k c.nums (c.words.getD 0 []) with
    | nil => exact ⟨[], by rw [join_one, List.append_nil]⟩
    | cons y l => exact ⟨_, join_two _ _ _ _⟩
  obtain ⟨r, hx⟩ := hx
  rw [hx]
  unfold skipB
  have e : ((sh k).name ++ r).getD (Int.toNat 0) 0 = (sh k).name.getD 0 0 := by
    cases hn : (sh k).name with
    | nil => exact absurd hn n1
    | cons x t => rfl
  have e2 : ¬ (((sh k).name.getD 0 0).toNat : Int) = 35 := by omega
  rw [e]
  simp only [e2, decide_false, Bool.or_false]
  simp [n1]
theorem goW_ok : ∀ (l : List Cm) (i : Nat) (b : Bs), okL i l → goW (fun c => textP c ++ [10]) chkW l i b = if decide (65536 < ((b ++ textL l).length : Int)) then ([], 4) else (b ++ textL l, 0)
  | [], i, b, _ => by simp [goW, textL]
  | c :: l, i, b, h => by
    obtain ⟨⟨h1, h2⟩, h3⟩ := h
    rw [goW, if_neg (by simp; omega), if_pos (by simpa using h2), goW_ok l (i + 1) _ h3]
    simp [textL]
theorem goW_back : ∀ (l : List Cm) (i : Nat) (b : Bs), (goW (fun c => textP c ++ [10]) chkW l i b).2 = 0 → okL i l
  | [], _, _, _ => trivial
  | c :: l, i, b, h => by
    rw [goW] at h
    split at h
    · cases h
    · rename_i h1
      split at h
      · rename_i h2
        exact ⟨⟨by simp at h1; omega, by simpa using h2⟩, goW_back l (i + 1) _ h⟩
      · rename_i h2
        exact absurd h (by simpa using h2)
theorem goW_err {f : Cm → Bs} {g : Cm → Bool → Int} : ∀ (l : List Cm) (i : Nat) (b : Bs), (goW f g l i b).2 ≠ 0 → (goW f g l i b).1 = []
  | [], _, b, h => by
    rw [goW] at h ⊢
    split at h
    · rename_i h1; rw [if_pos h1]
    · exact absurd rfl h
  | c :: l, i, b, h => by
    rw [goW] at h ⊢
    split at h
    · rename_i h1; rw [if_pos h1]
    · rename_i h1
      rw [if_neg h1]
      split at h
      · rename_i h2; rw [if_pos h2]; exact goW_err l (i + 1) _ h
      · rename_i h2; rw [if_neg h2]
theorem print_err {l : List Cm} (h : (printP l).2 ≠ 0) : (printP l).1 = [] := by
  unfold printP at h ⊢
  split
  · rfl
  · rename_i h1
    rw [if_neg h1] at h
    split
    · rfl
    · rename_i h2
      rw [if_neg h2] at h
      exact goW_err _ _ _ h
/-- What may be printed. -/
structure Whole (l : List Cm) : Prop where
  ne : l ≠ []
  few : l.length ≤ 1000
  ok : okL 0 l
  short : (textL l).length ≤ 65536
theorem print_of {l : List Cm} (h : Whole l) : printP l = (textL l, 0) := by
  have h1 := List.length_pos_iff.2 h.ne
  have h2 := h.few
  have h3 := h.short
  unfold printP
  rw [if_neg (by simp; exact h.ne), if_neg (by simp; omega), goW_ok _ _ _ h.ok, List.nil_append, if_neg (by simp; omega)]
theorem print_ok {l : List Cm} (h : (printP l).2 = 0) : Whole l := by
  unfold printP at h
  split at h
  · cases h
  · rename_i h1
    split at h
    · cases h
    · rename_i h2
      have hok := goW_back _ _ _ h
      rw [goW_ok _ _ _ hok, List.nil_append] at h
      split at h
      · cases h
      · rename_i h3
        exact ⟨by intro e; subst e; simp at h1, by simp at h2; omega, hok, by simp at h3; omega⟩
theorem goP_lines {R : List Bs} : ∀ (l : List Cm) (i : Nat) (acc : List Cm), okL acc.length l → acc.length + l.length ≤ 1000 → goP lineP (l.map textP ++ R) i acc = goP lineP R (i + l.length) (acc ++ numL i l)
  | [], i, acc, _, _ => by simp [numL]
  | c :: l, i, acc, h, hl => by
    obtain ⟨⟨h1, h2⟩, h3⟩ := h
    obtain ⟨_, hsk⟩ := text_facts h1 h2
    have hln := line_text (decide ((acc.length : Int) = 0)) h1 h2
    obtain ⟨_, _, _, _, _, hc0⟩ := chk_ok h1 h2
    rw [hc0] at hln
    rw [List.length_cons] at hl
    show goP lineP (textP c :: (l.map textP ++ R)) i acc = _
    rw [goP, if_neg (by rw [hsk]; simp), hln, if_pos (by simp), if_neg (by simp; omega)]
    rw [goP_lines l (i + 1) _ (by simpa using h3) (by simp; omega)]
    simp only [numL, List.append_assoc, List.cons_append, List.nil_append, List.length_cons]
    rw [show i + 1 + l.length = i + (l.length + 1) by omega]
theorem cut_text {r : Bs} : ∀ (l : List Cm) (i : Nat), okL i l → cutL 10 (textL l ++ r) = l.map textP ++ cutL 10 r
  | [], _, _ => rfl
  | c :: l, i, h => by
    obtain ⟨⟨h1, h2⟩, h3⟩ := h
    obtain ⟨h4, _⟩ := text_facts h1 h2
    have e : textL (c :: l) ++ r = textP c ++ 10 :: (textL l ++ r) := by simp [textL]
    rw [e, cutL_cut h4, cut_text l (i + 1) h3]; rfl
theorem goP_end {acc : List Cm} {i : Nat} (h : acc ≠ []) : goP lineP [[]] i acc = (acc, 0, 0) := by
  rw [goP, if_pos (by rfl), goP, if_neg (by simp; exact h)]
theorem parse_text {l : List Cm} (h : Whole l) : parseW lineP (textL l) = (numL 0 l, 0, 0) := by
  have h3 := h.short
  unfold parseW
  rw [if_neg (by simp; omega)]
  have hc := cut_text (r := []) l 0 h.ok
  rw [List.append_nil] at hc
  rw [hc, show cutL 10 [] = [[]] from rfl, goP_lines l 0 [] h.ok (by simpa using h.few), List.nil_append, goP_end]
  intro e
  have := numL_len l 0
  rw [e] at this
  exact h.ne (List.length_eq_zero_iff.1 (by simpa using this.symm))

/-- .. and back. -/
def sumL : List Bs → Nat
  | [] => 0
  | s :: l => s.length + 1 + sumL l
theorem cut_sum (b : UInt8) : ∀ s : Bs, sumL (cutL b s) = s.length + 1
  | [] => rfl
  | c :: t => by
    have ih := cut_sum b t
    rw [cutL]
    by_cases h : c = b
    · rw [if_pos h]; simp [sumL, ih]; omega
    · rw [if_neg h]
      cases hl : cutL b t with
      | nil => exact absurd hl (cutL_ne b t)
      | cons x r => rw [hl] at ih; simp [sumL] at ih ⊢; omega
theorem goP_err {f : Bool → Bs → Cm × Int} : ∀ (L : List Bs) (i : Nat) (acc : List Cm), (goP f L i acc).2.2 ≠ 0 → (goP f L i acc).1 = []
  | [], i, acc, h => by
    rw [goP] at h ⊢
    split
    · rfl
    · rename_i h1; rw [if_neg h1] at h; exact absurd rfl h
  | s :: L, i, acc, h => by
    rw [goP] at h ⊢
    split
    · rename_i h1; rw [if_pos h1] at h; exact goP_err L _ _ h
    · rename_i h1
      rw [if_neg h1] at h
      split
      · rename_i h2
        rw [if_pos h2] at h
        split
        · rfl
        · rename_i h3; rw [if_neg h3] at h; exact goP_err L _ _ h
      · rfl
theorem goP_back : ∀ (L : List Bs) (i : Nat) (acc : List Cm), (∀ s ∈ L, s.length < 900000) → (goP lineP L i acc).2.2 = 0 → (goP lineP L i acc).1 ≠ [] ∧ ∃ m, (goP lineP L i acc).1 = acc ++ m ∧ okL acc.length m ∧ (textL m).length ≤ sumL L
  | [], i, acc, hs, h => by
    rw [goP] at h ⊢
    split
    · rename_i h1; rw [if_pos h1] at h; cases h
    · rename_i h1
      exact ⟨by intro e; subst e; simp at h1, [], by simp, trivial, by simp [textL]⟩
  | s :: L, i, acc, hs, h => by
    rw [goP] at h ⊢
    have hs' : ∀ s ∈ L, s.length < 900000 := fun x hx => hs x (List.mem_cons_of_mem _ hx)
    split
    · rename_i h1
      rw [if_pos h1] at h
      obtain ⟨g1, m, g2, g3, g4⟩ := goP_back L _ _ hs' h
      exact ⟨g1, m, g2, g3, by simp only [sumL]; omega⟩
    · rename_i h1
      rw [if_neg h1] at h
      split
      · rename_i h2
        rw [if_pos h2] at h
        split
        · rename_i h3; rw [if_pos h3] at h; cases h
        · rename_i h3
          rw [if_neg h3] at h
          obtain ⟨g1, m, g2, g3, g4⟩ := goP_back L _ _ hs' h
          simp only [decide_eq_true_eq] at h2
          refine ⟨g1, _ :: m, by rw [g2, List.append_assoc]; rfl, ?_⟩
          have hsl := hs s (by simp)
          have hln : lineP (decide ((acc.length : Int) = 0)) s = ((readP s).1, checkS (readP s).1 (decide ((acc.length : Int) = 0))) ∧ (readP s).2 = 0 := by
            unfold lineP at h2 ⊢
            by_cases h4 : (readP s).2 = 0
            · rw [if_pos (by simpa using h4)]; exact ⟨rfl, h4⟩
            · rw [if_neg (by simpa using h4)] at h2; exact absurd h2 h4
          obtain ⟨e1, e2⟩ := hln
          obtain ⟨k, hg, _⟩ := readP_good hsl e2
          rw [e1] at h2 g3 ⊢
          dsimp only at h2 g3 ⊢
          have hr := checkS_allR hg.lt hg.op h2
          have ht := text_read e2 hr
          have hcw : chkW (readP s).1 (decide ((acc.length : Int) = 0)) = 0 := by unfold chkW; rw [hg.built, h2]; rfl
          have hop := hg.op
          have hlt := hg.lt
          refine ⟨⟨⟨⟨by show 0 ≤ (readP s).1.op; omega, by show (readP s).1.op ≤ 15; omega⟩, hcw⟩, ?_⟩, ?_⟩
          · simpa using g3
          · show ((textP (readP s).1 ++ [10]) ++ textL m).length ≤ _
            rw [ht]; simp [sumL]; omega
      · rename_i h2
        rw [if_neg h2] at h
        exact absurd h (by simpa using h2)
theorem parse_back {s : Bs} (hs : s.length ≤ 65535) (h : (parseW lineP s).2.2 = 0) : Whole (parseW lineP s).1 := by
  have hpo := parse_ok (s := s) (by omega)
  unfold parseW at h hpo ⊢
  rw [if_neg (by simp; omega)] at h hpo ⊢
  obtain ⟨g1, m, g2, g3, g4⟩ := goP_back (cutL 10 s) 0 [] (fun w hw => by have := cutL_le 10 s w hw; omega) h
  rw [List.nil_append] at g2
  rw [g2] at g1 hpo ⊢
  rw [cut_sum] at g4
  exact ⟨g1, hpo.1, g3, by omega⟩
theorem parse_err {f : Bool → Bs → Cm × Int} {s : Bs} (h : (parseW f s).2.2 ≠ 0) : (parseW f s).1 = [] := by
  unfold parseW at h ⊢
  split
  · rfl
  · rename_i h1; rw [if_neg h1] at h; exact goP_err _ _ _ h
/-- Two texts, the one behind the other: the second's first line stops it. -/
theorem parse_joins {l m : List Cm} (hl : Whole l) (hm : Whole m) (hlm : l.length + m.length ≤ 1000) (hs : (textL l ++ textL m).length ≤ 65536) : parseW lineP (textL l ++ textL m) = ([], (l.length : Int) + 1, 8) := by
  have hlp := List.length_pos_iff.2 hl.ne
  unfold parseW
  rw [if_neg (by simp only [decide_eq_true_eq]; omega), cut_text l 0 hl.ok]
  have hc := cut_text (r := []) m 0 hm.ok
  rw [List.append_nil] at hc
  rw [hc, goP_lines l 0 [] hl.ok (by simp; have := hl.few; omega), List.nil_append, Nat.zero_add]
  have hmne := hm.ne
  cases m with
  | nil => exact absurd rfl hmne
  | cons c m =>
    obtain ⟨⟨h1, h2⟩, h3⟩ := hm.ok
    obtain ⟨_, hsk⟩ := text_facts h1 h2
    obtain ⟨_, _, _, _, _, hc0⟩ := chk_ok h1 h2
    have hn : decide (((numL 0 l).length : Int) = 0) = false := by rw [numL_len]; simp; exact hl.ne
    have hln := line_text false h1 h2
    have h8 : checkS c false = 8 := by
      unfold checkS at hc0 ⊢
      split at hc0
      · cases hc0
      · rename_i h4
        rw [if_neg h4]
        split at hc0
        · cases hc0
        · rename_i h5
          rw [if_pos]
          cases h6 : decide (c.op = 0) with
          | true => rfl
          | false => rw [h6] at h5; simp at h5
    rw [h8] at hln
    show goP lineP (textP c :: (m.map textP ++ cutL 10 [])) l.length (numL 0 l) = _
    rw [goP, if_neg (by rw [hsk]; simp), hn, hln, if_neg (by simp)]
/-- .. and what they come to without that line. -/
theorem joins_whole {l m : List Cm} (hl : Whole l) (hm : Whole m) (hlm : l.length + m.length ≤ 1000) (hs : (textL l ++ textL m).length ≤ 65536) : Whole (l ++ m.drop 1) ∧ (textL (l ++ m.drop 1)).length < (textL l ++ textL m).length := by
  have hlp := List.length_pos_iff.2 hl.ne
  have hmne := hm.ne
  have hmo := hm.ok
  cases m with
  | nil => exact absurd rfl hmne
  | cons c m =>
    have e : (textL (l ++ m)).length < (textL l ++ textL (c :: m)).length := by
      rw [textL_app]; simp [textL]; omega
    refine ⟨⟨by simp [hl.ne], by simp at hlm ⊢; omega, okL_app hl.ok (okL_pos hmo.2 (by omega) (by omega)), ?_⟩, e⟩
    show (textL (l ++ m)).length ≤ 65536
    omega
end Go.AM
