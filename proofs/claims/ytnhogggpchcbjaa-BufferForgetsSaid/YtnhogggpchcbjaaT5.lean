
/- Chapter 54: a buffer stands for texts. -/
import Derived.Test.YtnhogggpchcbjaaT4
set_option linter.all false
namespace Go.AM
open Go Go.Proofs

/-- A step leads from a text to another one. -/
def Leads (s : Stp) (t u : Bs) : Prop := ∃ p q, t = p ++ (s.out ++ q) ∧ u = p ++ (s.in_ ++ q) ∧ s.at_ = p.length
inductive Chain : List Bs → List Stp → Prop
  | one (t : Bs) : Chain [t] []
  | cons {s : Stp} {t u : Bs} {L : List Bs} {ss : List Stp} (h : Leads s t u) (hc : Chain (u :: L) ss) : Chain (t :: u :: L) (s :: ss)
theorem Chain.len {L : List Bs} {ss : List Stp} (h : Chain L ss) : L.length = ss.length + 1 := by
  induction h with
  | one => rfl
  | cons _ _ ih => simp at ih ⊢; omega
theorem Chain.get {L : List Bs} {ss : List Stp} (h : Chain L ss) : ∀ {i : Nat} {s : Stp} {t u : Bs}, ss[i]? = some s → L[i]? = some t → L[i + 1]? = some u → Leads s t u := by
  induction h with
  | one => intro i s t u h; simp at h
  | cons hl hc ih =>
    intro i s t u h1 h2 h3
    cases i with
    | zero => simp at h1 h2 h3; subst h1 h2 h3; exact hl
    | succ i => exact ih (by simpa using h1) (by simpa using h2) (by simpa using h3)
theorem Chain.take {L : List Bs} {ss : List Stp} (h : Chain L ss) : ∀ (k : Nat), Chain (L.take (k + 1)) (ss.take k) := by
  induction h with
  | one t => intro k; simpa using .one t
  | cons hl hc ih =>
    intro k
    cases k with
    | zero => simpa using .one _
    | succ k => simpa using .cons hl (by simpa using ih k)
theorem Chain.snoc {L : List Bs} {ss : List Stp} (h : Chain L ss) : ∀ {s : Stp} {t u : Bs}, L.getLast? = some t → Leads s t u → Chain (L ++ [u]) (ss ++ [s]) := by
  induction h with
  | one t => intro s t' u h1 h2; simp at h1; subst h1; exact .cons h2 (.one _)
  | cons hl hc ih =>
    intro s t' u h1 h2
    exact .cons hl (ih (by simpa using h1) h2)
theorem Chain.tail {L : List Bs} {ss : List Stp} (h : Chain L ss) (h0 : 0 < ss.length) : Chain (L.drop 1) (ss.drop 1) := by
  cases h with
  | one t => simp at h0
  | cons _ hc => simpa using hc

/-- A buffer stands for texts, one of which counts. -/
structure Rel (b : Bu) (d : Rb) (B : Nat) : Prop where
  chain : Chain d.L (b.past ++ b.again.reverse)
  at_ : d.at_ = b.past.length
  text : d.L[b.past.length]? = some b.text
  len : d.L.length ≤ 257
  bd : ∀ t ∈ d.L, t.length ≤ B
section
variable {b : Bu} {d : Rb} {B : Nat}
theorem Rel.lens (h : Rel b d B) : b.past.length + b.again.length + 1 = d.L.length ∧ d.L.length ≤ 257 := by
  have := h.chain.len; have := h.len; simp at *; omega
theorem Rel.rb (h : Rel b d B) : RbOk d := by
  have h1 := h.lens; have h2 := h.at_
  exact ⟨⟨by omega, by omega⟩, by omega, by omega⟩
theorem Rel.tx (h : Rel b d B) : textR d = b.text := by
  have h1 := h.text
  unfold textR
  rw [h.at_, Int.toNat_natCast, List.getD_eq_getElem?_getD, h1]; rfl
theorem Rel.tl (h : Rel b d B) : b.text.length ≤ B := h.bd _ (List.mem_of_getElem? h.text)
theorem leads_len {s : Stp} {t u : Bs} (h : Leads s t u) : 0 ≤ s.at_ ∧ s.at_ + s.out.length ≤ t.length ∧ s.at_ + s.in_.length ≤ u.length := by
  obtain ⟨p, q, rfl, rfl, h3⟩ := h
  simp; omega
theorem Rel.undoS (h : Rel b d B) {one : Stp} (hl : b.past.getLast? = some one) : ∃ t, d.L[b.past.length - 1]? = some t ∧ Leads one t b.text ∧ t ∈ d.L := by
  have e := last_split hl
  have hp : 0 < b.past.length := by rw [e]; simp
  have hlen := h.lens
  have hx : d.L[b.past.length - 1]? = some d.L[b.past.length - 1] := List.getElem?_eq_getElem (by omega)
  refine ⟨_, hx, ?_, List.getElem_mem _⟩
  refine h.chain.get (i := b.past.length - 1) ?_ hx (by rw [show b.past.length - 1 + 1 = b.past.length by omega]; exact h.text)
  rw [List.getElem?_append_left (by omega)]
  rw [← List.getLast?_eq_getElem?]; exact hl
theorem Rel.redoS (h : Rel b d B) {one : Stp} (hl : b.again.getLast? = some one) : ∃ t, d.L[b.past.length + 1]? = some t ∧ Leads one b.text t ∧ t ∈ d.L := by
  have e := last_split hl
  have hp : 0 < b.again.length := by rw [e]; simp
  have hlen := h.lens
  have hx : d.L[b.past.length + 1]? = some (d.L[b.past.length + 1]'(by omega)) := List.getElem?_eq_getElem (by omega)
  refine ⟨_, hx, ?_, List.getElem_mem _⟩
  refine h.chain.get (i := b.past.length) ?_ h.text hx
  rw [List.getElem?_append_right (Nat.le_refl _), Nat.sub_self, ← List.head?_eq_getElem?, List.head?_reverse]; exact hl
theorem Rel.good (h : Rel b d B) (hB : B ≤ 65536) : Good b := by
  have hl := h.lens; have ht := h.tl
  refine ⟨⟨by omega, by omega, by omega⟩, fun one ho => ?_, fun one ho => ?_⟩
  · obtain ⟨t, _, h2, h3⟩ := h.undoS ho
    have h4 := leads_len h2
    have h5 := h.bd t h3
    exact ⟨⟨by omega, by omega⟩, by omega⟩
  · obtain ⟨t, _, h2, h3⟩ := h.redoS ho
    have h4 := leads_len h2
    have h5 := h.bd t h3
    exact ⟨⟨by omega, by omega⟩, by omega⟩
theorem put_leads {s : Stp} {t u : Bs} (h : Leads s t u) : put1 t s.at_ s.out s.in_ = u ∧ put1 u s.at_ s.in_ s.out = t := by
  obtain ⟨p, q, rfl, rfl, h3⟩ := h
  unfold put1
  rw [h3, Int.toNat_natCast]
  constructor <;> simp [List.take_append, List.drop_append]
theorem leads_put {s : Stp} {t : Bs} (h : StpOk s t) (hd : s.out = (t.drop s.at_.toNat).take s.out.length) : Leads s t (put1 t s.at_ s.out s.in_) := by
  have h1 := h.lo; have h2 := h.hi
  refine ⟨t.take s.at_.toNat, t.drop (s.at_.toNat + s.out.length), ?_, ?_, ?_⟩
  · conv => rhs; rw [hd]
    rw [← List.drop_drop]
    rw [List.length_take, List.length_drop, Nat.min_eq_left (by omega), List.take_append_drop, List.take_append_drop]
  · unfold put1; rw [List.append_assoc]
  · rw [List.length_take]; omega

theorem with_small {l : List Stp} {one : Stp} (h : l.length < 256) : withS l one = l ++ [one] := by unfold withS; rw [if_neg (by omega)]
theorem Rel.undo (h : Rel b d B) : if d.at_ = 0 then undoB b = (b, false) else (undoB b).2 = true ∧ Rel (undoB b).1 ⟨d.L, d.at_ - 1⟩ B := by
  have hl := h.lens; have ha := h.at_
  unfold undoB
  cases hp : b.past.getLast? with
  | none =>
    have := last_none hp
    rw [if_pos (by rw [ha, this]; rfl)]
  | some one =>
    obtain ⟨t, h1, h2, h3⟩ := h.undoS hp
    have e := last_split hp
    have hd : b.past.dropLast.length = b.past.length - 1 := by simp
    have hpos : 0 < b.past.length := by rw [e]; simp
    rw [if_neg (by omega)]
    refine ⟨rfl, ⟨?_, ?_, ?_, h.len, h.bd⟩⟩
    · dsimp only
      rw [with_small (by omega)]
      have hc := h.chain
      rw [e] at hc
      simpa using hc
    · dsimp only; rw [hd]; omega
    · dsimp only
      rw [hd, h1, (put_leads h2).2]
theorem Rel.redo (h : Rel b d B) : if (d.L.length : Int) ≤ d.at_ + 1 then redoB b = (b, false) else (redoB b).2 = true ∧ Rel (redoB b).1 ⟨d.L, d.at_ + 1⟩ B := by
  have hl := h.lens; have ha := h.at_
  unfold redoB
  cases hp : b.again.getLast? with
  | none =>
    have := last_none hp
    rw [if_pos (by rw [this] at hl; simp at hl; omega)]
  | some one =>
    obtain ⟨t, h1, h2, h3⟩ := h.redoS hp
    have e := last_split hp
    have hpos : 0 < b.again.length := by rw [e]; simp
    rw [if_neg (by omega)]
    have hw : withS b.past one = b.past ++ [one] := with_small (by omega)
    refine ⟨rfl, ⟨?_, ?_, ?_, h.len, h.bd⟩⟩
    · dsimp only
      rw [hw]
      have hc := h.chain
      rw [e] at hc
      simpa using hc
    · dsimp only; rw [hw]; simp; omega
    · dsimp only
      rw [hw, List.length_append]
      simp only [List.length_cons, List.length_nil]
      rw [show b.past.length + (0 + 1) = b.past.length + 1 by omega, h1, (put_leads h2).1]

theorem Rel.change (h : Rel b d B) {one : Stp} {B' : Nat} (hs : StpOk one b.text) (hd : one.out = (b.text.drop one.at_.toNat).take one.out.length) (hB : B ≤ B') (hn : (put1 b.text one.at_ one.out one.in_).length ≤ B') :
    Rel (changeB b one) (withR d (put1 b.text one.at_ one.out one.in_)) B' := by
  have hl := h.lens; have ha := h.at_
  have hle := leads_put hs hd
  have hc := h.chain.take b.past.length
  rw [List.take_left' rfl] at hc
  have hlast : (d.L.take (b.past.length + 1)).getLast? = some b.text := by
    rw [List.getLast?_eq_getElem?, List.length_take, Nat.min_eq_left (by omega), List.getElem?_take_of_lt (by omega)]
    exact h.text
  have hc2 := hc.snoc hlast hle
  have e1 : (d.at_ + 1).toNat = b.past.length + 1 := by omega
  have hbd : ∀ t ∈ d.L.take (b.past.length + 1) ++ [put1 b.text one.at_ one.out one.in_], t.length ≤ B' := fun t ht => by
    rcases List.mem_append.1 ht with ht | ht
    · have := h.bd t (List.mem_of_mem_take ht); omega
    · simp at ht; subst ht; exact hn
  have hml : (d.L.take (b.past.length + 1) ++ [put1 b.text one.at_ one.out one.in_]).length = b.past.length + 2 := by simp; omega
  unfold withR withL
  rw [e1]
  generalize hm : d.L.take (b.past.length + 1) ++ [put1 b.text one.at_ one.out one.in_] = m at *
  have hmlast : m[b.past.length + 1]? = some (put1 b.text one.at_ one.out one.in_) := by
    rw [← hm, List.getElem?_append_right (by simp; omega)]
    simp [show b.past.length + 1 - min (b.past.length + 1) d.L.length = 0 by omega]
  unfold changeB
  by_cases hb : b.past.length < 256
  · rw [if_neg (by rw [hml]; simp; omega)]
    have hw := with_small (one := one) hb
    refine ⟨?_, ?_, ?_, ?_, hbd⟩
    · dsimp only; rw [hw]; simpa using hc2
    · dsimp only; rw [hw, hml]; simp; omega
    · dsimp only; rw [hw]; simpa using hmlast
    · dsimp only; omega
  · have hb : b.past.length = 256 := by omega
    rw [if_pos (by rw [hml]; simp; omega)]
    have hw : withS b.past one = b.past.drop 1 ++ [one] := by unfold withS; rw [if_pos (by omega), hb]
    have hwl : (withS b.past one).length = 256 := by rw [hw]; simp; omega
    refine ⟨?_, ?_, ?_, ?_, fun t ht => hbd t (List.mem_of_mem_drop ht)⟩
    · dsimp only
      rw [hw]
      have := hc2.tail (by simp)
      rw [List.drop_append_of_le_length (by omega)] at this
      simpa using this
    · dsimp only; rw [hwl, List.length_drop, hml]; omega
    · dsimp only
      rw [hwl, List.getElem?_drop, show 1 + 256 = b.past.length + 1 by omega]; exact hmlast
    · dsimp only; rw [List.length_drop, hml]; omega
end
end Go.AM
