
/- Chapter 63: a line that is written reads the same; a line that is read writes the same. -/
import Derived.Test.YtlmhekbbagpnjaaDoorS17
import Derived.Test.YtlmhekbbagpnjaaDoorS27
import Derived.Test.YtlmhekbbagpnjaaDoorS31
set_option linter.all false
namespace Go.AM
open Go Go.Proofs Go.RowKit

theorem join_one (x : Bs) (p : Bs) : Lib.join [x] p = x := by simp [Lib.join, List.intercalate]
theorem join_two (x y : Bs) (l : List Bs) (p : Bs) : Lib.join (x :: y :: l) p = x ++ (p ++ Lib.join (y :: l) p) := by simp [Lib.join, List.intercalate, List.intersperse]
theorem join_push (c : UInt8) (x : Bs) (l : List Bs) (p : Bs) : Lib.join ((c :: x) :: l) p = c :: Lib.join (x :: l) p := by
  cases l with
  | nil => rw [join_one, join_one]
  | cons y l => rw [join_two, join_two]; rfl
theorem cut_join {b : UInt8} : ∀ (l : List Bs), l ≠ [] → (∀ w ∈ l, b ∉ w) → cutL b (Lib.join l [b]) = l
  | [], h, _ => absurd rfl h
  | [x], _, h => by rw [join_one, cutL_no (h x (by simp))]
  | x :: y :: l, _, h => by
    rw [join_two]
    show cutL b (x ++ b :: Lib.join (y :: l) [b]) = _
    rw [cutL_cut (h x (by simp)), cut_join (y :: l) (by simp) fun w hw => h w (List.mem_cons_of_mem _ hw)]
theorem join_cut (b : UInt8) : ∀ s : Bs, Lib.join (cutL b s) [b] = s
  | [] => by simp [cutL, join_one]
  | c :: t => by
    have ih := join_cut b t
    cases hl : cutL b t with
    | nil => exact absurd hl (cutL_ne b t)
    | cons x r =>
      rw [hl] at ih
      rw [cutL, hl]
      by_cases h : c = b
      · rw [if_pos h, join_two, ih, h]; rfl
      · rw [if_neg h]
        show Lib.join ((c :: x) :: r) [b] = _
        rw [join_push, ih]
theorem no_join {b : UInt8} (h32 : b ≠ 32) : ∀ (l : List Bs), (∀ w ∈ l, b ∉ w) → b ∉ Lib.join l [32]
  | [], _ => by simp [Lib.join, List.intercalate]
  | [x], h => by rw [join_one]; exact h x (by simp)
  | x :: y :: l, h => by
    rw [join_two]
    intro hm
    rcases List.mem_append.1 hm with hm | hm
    · exact h x (by simp) hm
    · rcases List.mem_append.1 hm with hm | hm
      · simp at hm; exact h32 hm
      · exact no_join h32 (y :: l) (fun w hw => h w (List.mem_cons_of_mem _ hw)) hm

/-- What follows the name. -/
def tailW (k : Nat) (nums : List Int) (w : Bs) : List Bs := if !decide ((sh k).word = 0) then ins (nums.map Lib.itoa) (sh k).ahead.toNat w else nums.map Lib.itoa
theorem wordsP_eq {k : Nat} (hk : k < 16) (nums : List Int) (w : Bs) : wordsP k nums w = (sh k).name :: tailW k nums w := by
  unfold wordsP tailW
  have := (ahead_le hk).1
  split
  · have e : (1 + (sh k).ahead).toNat = (sh k).ahead.toNat + 1 := by omega
    rw [e]; simp [ins]
  · rfl
theorem rdB_nums {a : Int} {r : List Bs} : ∀ (nums : List Int) (i : Nat) (ns : List Int) (ws : List Bs), allR nums = true → (a < i ∨ (i : Int) + nums.length ≤ a) → rdB numP a (nums.map Lib.itoa ++ r) i ns ws = rdB numP a r (i + nums.length) (ns ++ nums) ws
  | [], i, ns, ws, _, _ => by simp
  | n :: nums, i, ns, ws, hr, ha => by
    simp only [allR, List.all_cons, Bool.and_eq_true] at hr
    obtain ⟨h1, h2⟩ := itoa_num hr.1
    rw [List.length_cons] at ha
    show rdB numP a (Lib.itoa n :: (nums.map Lib.itoa ++ r)) i ns ws = _
    rw [rdB, if_neg (by simp; omega), if_pos h1, h2, rdB_nums nums (i + 1) _ ws hr.2 (by omega)]
    simp only [List.length_cons, List.append_assoc, List.cons_append, List.nil_append]
    rw [show i + 1 + nums.length = i + (nums.length + 1) by omega]
theorem allR_take' {l : List Int} {i : Nat} (h : allR l = true) : allR (l.take i) = true ∧ allR (l.drop i) = true := by
  unfold allR at *
  rw [List.all_eq_true] at h
  constructor
  · rw [List.all_eq_true]; exact fun x hx => h x (List.mem_of_mem_take hx)
  · rw [List.all_eq_true]; exact fun x hx => h x (List.mem_of_mem_drop hx)
theorem rdB_tail {k : Nat} (hk : k < 16) {nums : List Int} {w : Bs} (hr : allR nums = true) (hl : (sh k).ahead ≤ nums.length) :
    rdB numP (atP k) (tailW k nums w) 0 [] [] = (true, nums, if decide ((sh k).word = 0) then [] else [w]) := by
  have ha := (ahead_le hk).1
  unfold tailW atP
  by_cases h0 : (sh k).word = 0
  · have e := rdB_nums (a := -1) (r := []) nums 0 [] [] hr (by omega)
    rw [List.append_nil] at e
    simp only [h0, decide_true, Bool.not_true, Bool.false_eq_true, if_false, if_true]
    rw [e]; simp [rdB]
  · simp only [h0, decide_false, Bool.not_false, if_true, Bool.false_eq_true, if_false]
    obtain ⟨a, e⟩ : ∃ a : Nat, (sh k).ahead = a := ⟨(sh k).ahead.toNat, by omega⟩
    rw [e] at hl ⊢
    rw [Int.toNat_natCast]
    unfold ins
    rw [← List.map_take, ← List.map_drop]
    have hta : (nums.take a).length = a := by simp; omega
    rw [rdB_nums (nums.take a) 0 [] [] (allR_take' hr).1 (by rw [hta]; omega), hta, Nat.zero_add, rdB, if_pos (by simp)]
    have e2 := rdB_nums (a := (a : Int)) (r := []) (nums.drop a) (a + 1) ([] ++ nums.take a) ([] ++ [w]) (allR_take' hr).2 (by omega)
    rw [List.append_nil] at e2
    rw [e2]; simp [rdB]
theorem rdB_back0 {a : Int} : ∀ (l : List Bs) (i : Nat) (ns : List Int) (ws : List Bs) (ns' : List Int) (ws' : List Bs), a < i → rdB numP a l i ns ws = (true, ns', ws') → allR ns' = true → ws' = ws ∧ ∃ m, ns' = ns ++ m ∧ l = m.map Lib.itoa
  | [], i, ns, ws, ns', ws', _, h, _ => by
    simp only [rdB, Prod.mk.injEq] at h
    obtain ⟨_, rfl, rfl⟩ := h
    exact ⟨rfl, [], by simp, rfl⟩
  | w :: l, i, ns, ws, ns', ws', ha, h, hr => by
    rw [rdB, if_neg (by simp; omega)] at h
    split at h
    · rename_i hn
      obtain ⟨h1, m, h2, h3⟩ := rdB_back0 l (i + 1) _ ws ns' ws' (by omega) h hr
      refine ⟨h1, numP w :: m, by rw [h2]; simp, ?_⟩
      have hin : inR (numP w) = true := by
        unfold allR at hr
        exact List.all_eq_true.1 hr _ (by rw [h2]; simp)
      rw [List.map_cons, num_itoa hn hin, ← h3]
    · simp at h
theorem rdB_back1 {a : Nat} : ∀ (l : List Bs) (i : Nat) (ns : List Int) (ws : List Bs) (ns' : List Int) (ws' : List Bs), i ≤ a → rdB numP a l i ns ws = (true, ns', ws') → allR ns' = true →
    ws' = ws ∨ ∃ w m1 m2, ws' = ws ++ [w] ∧ ns' = ns ++ (m1 ++ m2) ∧ m1.length = a - i ∧ l = m1.map Lib.itoa ++ w :: m2.map Lib.itoa
  | [], i, ns, ws, ns', ws', _, h, _ => by
    simp only [rdB, Prod.mk.injEq] at h
    exact .inl h.2.2.symm
  | w :: l, i, ns, ws, ns', ws', ha, h, hr => by
    rw [rdB] at h
    split at h
    · rename_i hi
      obtain ⟨h1, m, h2, h3⟩ := rdB_back0 l (i + 1) _ _ ns' ws' (by simp at hi; omega) h hr
      exact .inr ⟨w, [], m, h1, by rw [h2]; simp, by simp at hi ⊢; omega, by rw [h3]; rfl⟩
    · rename_i hi
      split at h
      · rename_i hn
        rcases rdB_back1 l (i + 1) _ ws ns' ws' (by simp at hi; omega) h hr with h1 | ⟨x, m1, m2, h1, h2, h3, h4⟩
        · exact .inl h1
        · have hin : inR (numP w) = true := by
            unfold allR at hr
            exact List.all_eq_true.1 hr _ (by rw [h2]; simp)
          refine .inr ⟨x, numP w :: m1, m2, h1, by rw [h2]; simp, by simp at hi ⊢; omega, ?_⟩
          rw [List.map_cons, num_itoa hn hin, h4]; rfl
      · simp at h
/-- A command's words are those of its shape. -/
theorem built_words {c : Cm} {k : Nat} (hop : c.op = k) (h : builtB c = true) : c.words = (if decide ((sh k).word = 0) then [] else [c.words.getD 0 []]) ∧ (¬ (sh k).word = 0 → wordP (sh k).word (c.words.getD 0 []) = true) := by
  unfold builtB at h
  rw [show c.op.toNat = k by rw [hop]; rfl] at h
  split at h
  · cases h
  · by_cases h0 : (sh k).word = 0
    · rw [if_pos (by simpa using h0)] at h
      simp only [decide_eq_true_eq] at h
      have : c.words = [] := List.length_eq_zero_iff.1 (by omega)
      simp [h0, this]
    · rw [if_neg (by simpa using h0)] at h
      simp only [Bool.and_eq_true, decide_eq_true_eq] at h
      simp only [h0, decide_false, Bool.false_eq_true, if_false, not_false_eq_true, forall_const]
      refine ⟨?_, h.2⟩
      match c.words, h.1 with
      | [x], _ => rfl
      | [], h => simp at h
      | _ :: _ :: _, h => simp at h; omega
theorem tail_back {k : Nat} (hk : k < 16) {l : List Bs} {ns : List Int} {ws : List Bs} {ln : Int} (h : rdB numP (atP k) l 0 [] [] = (true, ns, ws)) (hr : allR ns = true) (hb : builtB ⟨ln, k, ns, ws⟩ = true) : tailW k ns (ws.getD 0 []) = l := by
  have ha := (ahead_le hk).1
  obtain ⟨hw, _⟩ := built_words (c := ⟨ln, k, ns, ws⟩) rfl hb
  dsimp only at hw
  unfold atP at h
  unfold tailW
  by_cases h0 : (sh k).word = 0
  · simp only [h0, decide_true, Bool.not_true, Bool.false_eq_true, if_false, if_true] at h ⊢
    obtain ⟨_, m, h2, h3⟩ := rdB_back0 l 0 [] [] ns ws (by omega) h hr
    rw [h3, h2]; simp
  · simp only [h0, decide_false, Bool.not_false, if_true, Bool.false_eq_true, if_false] at h hw ⊢
    obtain ⟨a, e⟩ : ∃ a : Nat, (sh k).ahead = a := ⟨(sh k).ahead.toNat, by omega⟩
    rw [e] at h ⊢
    rw [Int.toNat_natCast]
    rcases rdB_back1 l 0 [] [] ns ws (by omega) h hr with h1 | ⟨w, m1, m2, h1, h2, h3, h4⟩
    · rw [h1] at hw; simp at hw
    · have e1 : m1.length = a := by omega
      rw [h1, h2, h4]
      simp only [List.nil_append, List.getD_cons_zero]
      unfold ins
      rw [← List.map_take, ← List.map_drop, List.take_left' e1, List.drop_left' e1]
theorem name_facts {k : Nat} (hk : k < 16) : (32 : UInt8) ∉ (sh k).name ∧ (10 : UInt8) ∉ (sh k).name ∧ (sh k).name ≠ [] ∧ ((sh k).name.getD 0 0).toNat ≠ 35 ∧ opS (sh k).name = some k := by
  rcases sixteen hk with rfl | rfl | rfl | rfl | rfl | rfl | rfl | rfl | rfl | rfl | rfl | rfl | rfl | rfl | rfl | rfl <;> decide
theorem word_no {n : Int} {w : Bs} {b : UInt8} (hb : b = 32 ∨ b = 10) (h : wordP n w = true) : b ∉ w := by
  have hx : hexB w = true → b ∉ w := fun hh hm => by
    unfold hexB at hh
    split at hh
    · cases hh
    · unfold allHex at hh
      have := List.all_eq_true.1 hh b hm
      rcases hb with rfl | rfl <;> revert this <;> decide
  have hd : (decide (w = [45]) || hexB w) = true → b ∉ w := fun hh => by
    rw [Bool.or_eq_true] at hh
    rcases hh with hh | hh
    · simp at hh; subst hh
      rcases hb with rfl | rfl <;> decide
    · exact hx hh
  unfold wordP at h
  split at h
  · unfold isKind kinds at h
    simp only [decide_eq_true_eq, List.mem_cons, List.not_mem_nil, or_false] at h
    rcases h with rfl | rfl | rfl | rfl | rfl <;> rcases hb with rfl | rfl <;> decide
  · split at h
    · exact hd h
    · split at h
      · exact hx h
      · cases h
theorem mem_ins {l : List Bs} {i : Nat} {x y : Bs} (h : y ∈ ins l i x) : y = x ∨ y ∈ l := by
  unfold ins at h
  rcases List.mem_append.1 h with h | h
  · exact .inr (List.mem_of_mem_take h)
  · rcases List.mem_cons.1 h with h | h
    · exact .inl h
    · exact .inr (List.mem_of_mem_drop h)
/-- No word of a command holds what words, or lines, are cut at. -/
theorem words_no {c : Cm} {k : Nat} (hk : k < 16) (hop : c.op = k) (hb : builtB c = true) {b : UInt8} (hbb : b = 32 ∨ b = 10) : ∀ w ∈ wordsP k c.nums (c.words.getD 0 []), b ∉ w := by
  intro w hw
  rw [wordsP_eq hk] at hw
  have hit : ∀ x ∈ c.nums.map Lib.itoa, b ∉ x := fun x hx => by
    obtain ⟨n, _, rfl⟩ := List.mem_map.1 hx
    rcases hbb with rfl | rfl
    · exact itoa_no (by decide) (by decide)
    · exact itoa_no (by decide) (by decide)
  rcases List.mem_cons.1 hw with rfl | hw
  · rcases hbb with rfl | rfl
    · exact (name_facts hk).1
    · exact (name_facts hk).2.1
  · unfold tailW at hw
    split at hw
    · rename_i h0
      rcases mem_ins hw with rfl | hw
      · exact word_no hbb ((built_words hop hb).2 (by simpa using h0))
      · exact hit w hw
    · exact hit w hw
theorem read_text {c : Cm} {k : Nat} (hk : k < 16) (hop : c.op = k) (hb : builtB c = true) (hr : allR c.nums = true) : readP (textP c) = (⟨0, k, c.nums, c.words⟩, 0) := by
  have hko : c.op.toNat = k := by rw [hop]; rfl
  have hl : (sh k).ahead ≤ c.nums.length := by
    have h1 := (built_len hop hb).1
    have h2 := (ahead_le hk).2.1
    omega
  obtain ⟨hw, _⟩ := built_words hop hb
  have hc : cutL 32 (textP c) = (sh k).name :: tailW k c.nums (c.words.getD 0 []) := by
    unfold textP
    rw [hko, cut_join _ (by rw [wordsP_eq hk]; simp) (words_no hk hop hb (.inl rfl)), wordsP_eq hk]
  unfold readP
  rw [hc]
  simp only [List.getD_cons_zero, (name_facts hk).2.2.2.2, List.drop_succ_cons, List.drop_zero]
  unfold readK
  rw [rdB_tail hk hr hl, ← hw]
  dsimp only
  have hb' : builtB ⟨0, k, c.nums, c.words⟩ = true := by
    rw [← hb]
    unfold builtB
    rw [hko]; rfl
  rw [if_pos hb']
theorem text_read {s : Bs} (h : (readP s).2 = 0) (hr : allR (readP s).1.nums = true) : textP (readP s).1 = s := by
  unfold readP at h hr ⊢
  cases hop : opS ((cutL 32 s).getD 0 []) with
  | none => rw [hop] at h; cases h
  | some k =>
    rw [hop] at h hr
    dsimp only at h hr ⊢
    obtain ⟨hk, hn⟩ := opS_some hop
    unfold readK at h hr ⊢
    rcases hrd : rdB numP (atP k) ((cutL 32 s).drop 1) 0 [] [] with ⟨b, ns, ws⟩
    rw [hrd] at h hr
    cases b with
    | false => cases h
    | true =>
      dsimp only at h hr ⊢
      by_cases hb : builtB ⟨0, k, ns, ws⟩ = true
      · rw [if_pos hb] at hr ⊢
        dsimp only at hr
        have ht := tail_back hk hrd hr hb
        unfold textP
        show Lib.join (wordsP k ns (ws.getD 0 [])) [32] = s
        rw [wordsP_eq hk, ht]
        have e : (sh k).name :: (cutL 32 s).drop 1 = cutL 32 s := by
          cases hl : cutL 32 s with
          | nil => exact absurd hl (cutL_ne 32 s)
          | cons x r =>
            rw [hl] at hn
            simp at hn ⊢
            first | exact hn | exact hn.symm
        rw [e, join_cut]
      · rw [if_neg hb] at h; cases h
end Go.AM
