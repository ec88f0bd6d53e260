/- What the little machine's data mean in the model's worlds. -/
import Derived.Test.YtnjmjiajbgdnlaaA2
set_option linter.all false
namespace Go.AM
open Go Go.RowKit

abbrev Kn := Nat → Option Obj
abbrev Pl := Nat → Nat → Option Value
def pl0 : Pl := fun _ _ => none
def KLe (K K' : Kn) : Prop := ∀ b o, K b = some o → K' b = some o
def PLe (p p' : Pl) : Prop := ∀ k v x, p k v = some x → p' k v = some x
theorem KLe.refl (K : Kn) : KLe K K := fun _ _ h => h
theorem PLe.refl (p : Pl) : PLe p p := fun _ _ _ h => h
theorem KLe.trans {a b c : Kn} (h : KLe a b) (h' : KLe b c) : KLe a c := fun _ _ e => h' _ _ (h _ _ e)
theorem PLe.trans {a b c : Pl} (h : PLe a b) (h' : PLe b c) : PLe a c := fun _ _ _ e => h' _ _ _ (h _ _ _ e)
theorem PLe.zero (p : Pl) : PLe pl0 p := fun _ _ _ h => by cases h

/-- Rows, cell behind cell. -/
def flat (vs : List Value) : List Value := vs.flatMap (·.cells.toList)

def sized (sz : Nat) (vs : List Value) : Prop := ∀ v ∈ vs, v.cells.size = sz ∧ ∀ c ∈ v.cells.toList, c.oneCell' = true

/-- The known block b holds these rows from cell off on. -/
def Lies (K : Kn) (sz b off : Nat) (vs : List Value) : Prop := ∃ cs T fz, K b = some (.cells cs T fz) ∧ sized sz vs ∧ flat vs <+: cs.toList.drop off

/-- The known block is a map with these keys and values. -/
def MapLies (K : Kn) (b : Nat) (kvs vvs : List Value) : Prop :=
  ∃ es clock, K b = some (.map es clock) ∧ (es.toList.map fun e => (e.key, e.val)).Perm (kvs.zip vvs) ∧ (∀ e ∈ es, e.born < clock) ∧ (es.toList.map (·.born)).Nodup

mutual
/-- A value is a datum. -/
def Rep (K : Kn) (pl : Pl) : D → Value → Prop
  | .int k n, v => v = .int k n
  | .bool b, v => v = .bool b
  | .str s, v => v = .string ⟨s.toArray⟩
  | .agg l, v => ∃ cs : List Value, v = .agg cs.toArray ∧ RepL K pl l cs ∧ ∀ c ∈ cs, c.oneCell' = true
  | .tup l, v => ∃ cs : List Value, v = .tuple cs.toArray ∧ RepL K pl l cs
  | .ls sz l, v => ∃ a n cap, v = .slice a n cap ∧ n = l.length ∧ n ≤ cap ∧ (a = none → cap = 0) ∧ (l = [] ∨ ∃ b off vs, a = some ⟨b, off, none⟩ ∧ RepL K pl0 l vs ∧ Lies K sz b off vs)
  | .mp ks vs, v => (v = .map none ∧ ks = [] ∧ vs = []) ∨ ∃ b kvs vvs, v = .map (some b) ∧ RepL K pl0 ks kvs ∧ RepL K pl0 vs vvs ∧ ks.length = vs.length ∧ MapLies K b kvs vvs
  | .fn f caps, v => ∃ cs : List Value, v = .func (.func f) #[] cs.toArray ∧ RepL K pl caps cs
  | .nil, v => v = .pointer none ∨ v = .nilFunc
  | .boxi k off, v => ∃ b, pl k 0 = some (.pointer (some ⟨b, 0, none⟩)) ∧ v = .pointer (some ⟨b, off, none⟩)
  | .bsl k base sz len, v => ∃ b o cap, pl k 0 = some (.pointer (some ⟨b, 0, none⟩)) ∧ v = .slice (some ⟨b, o, none⟩) len cap ∧ len ≤ cap ∧ (len = 0 ∨ o = base)
  | .ownm k ver, v => pl k ver = some v ∧ ∃ r, v = .map r
  | .glob g off, v => v = .pointer (some ⟨g, off, none⟩)
  | .box k off, v => ∃ b, pl k 0 = some (.pointer (some ⟨b, 0, none⟩)) ∧ v = .pointer (some ⟨b, off, none⟩)
  | .own k ver, v => pl k ver = some v ∧ ∃ a n c, v = .slice a n c
  | .el sz l i off, v => ∃ b o vs, v = .pointer (some ⟨b, o + i * sz + off, none⟩) ∧ i < l.length ∧ RepL K pl0 l vs ∧ Lies K sz b o vs
  | .elo k ver sz i off, v => ∃ b n c, pl k ver = some (.slice (some ⟨b, 0, none⟩) n c) ∧ v = .pointer (some ⟨b, i * sz + off, none⟩)
  | .any, _ => True
def RepL (K : Kn) (pl : Pl) : List D → List Value → Prop
  | [], vs => vs = []
  | d :: l, vs => ∃ v r, vs = v :: r ∧ Rep K pl d v ∧ RepL K pl l r
end

theorem Lies.mono {K K' : Kn} (h : KLe K K') {sz b off vs} (hl : Lies K sz b off vs) : Lies K' sz b off vs := by
  obtain ⟨cs, T, fz, h1, h2⟩ := hl; exact ⟨cs, T, fz, h _ _ h1, h2⟩

theorem MapLies.mono {K K' : Kn} (h : KLe K K') {b kvs vvs} (hl : MapLies K b kvs vvs) : MapLies K' b kvs vvs := by
  obtain ⟨es, c, h1, h2⟩ := hl; exact ⟨es, c, h _ _ h1, h2⟩

mutual
theorem Rep.mono {K K' : Kn} {pl pl' : Pl} (hK : KLe K K') (hp : PLe pl pl') : ∀ (d : D) (v : Value), Rep K pl d v → Rep K' pl' d v
  | .int _ _, _, h => by simpa [Rep] using h
  | .bool _, _, h => by simpa [Rep] using h
  | .str _, _, h => by simpa [Rep] using h
  | .agg l, v, h => by
    simp only [Rep] at h ⊢
    obtain ⟨cs, h1, h2, h3⟩ := h
    exact ⟨cs, h1, RepL.mono hK hp l cs h2, h3⟩
  | .tup l, v, h => by
    simp only [Rep] at h ⊢
    obtain ⟨cs, h1, h2⟩ := h
    exact ⟨cs, h1, RepL.mono hK hp l cs h2⟩
  | .ls sz l, v, h => by
    simp only [Rep] at h ⊢
    obtain ⟨a, n, cap, h1, h2, hc, h0, h3⟩ := h
    refine ⟨a, n, cap, h1, h2, hc, h0, ?_⟩
    rcases h3 with h3 | ⟨b, off, vs, h4, h5, h6⟩
    · exact .inl h3
    · exact .inr ⟨b, off, vs, h4, RepL.mono hK (PLe.refl _) l vs h5, h6.mono hK⟩
  | .mp ks vs, v, h => by
    simp only [Rep] at h ⊢
    rcases h with h | ⟨b, kvs, vvs, h1, h2, h3, h4, h5⟩
    · exact .inl h
    · exact .inr ⟨b, kvs, vvs, h1, RepL.mono hK (PLe.refl _) ks kvs h2, RepL.mono hK (PLe.refl _) vs vvs h3, h4, h5.mono hK⟩
  | .fn f l, v, h => by
    simp only [Rep] at h ⊢
    obtain ⟨cs, h1, h2⟩ := h
    exact ⟨cs, h1, RepL.mono hK hp l cs h2⟩
  | .nil, _, h => by simpa only [Rep] using h
  | .boxi k off, v, h => by
    simp only [Rep] at h ⊢
    obtain ⟨b, h1, h2⟩ := h
    exact ⟨b, hp _ _ _ h1, h2⟩
  | .bsl k base sz len, v, h => by
    simp only [Rep] at h ⊢
    obtain ⟨b, o, c, h1, h2⟩ := h
    exact ⟨b, o, c, hp _ _ _ h1, h2⟩
  | .ownm k ver, v, h => by simp only [Rep] at h ⊢; exact ⟨hp _ _ _ h.1, h.2⟩
  | .glob g off, _, h => by simpa [Rep] using h
  | .box k off, v, h => by
    simp only [Rep] at h ⊢
    obtain ⟨b, h1, h2⟩ := h
    exact ⟨b, hp _ _ _ h1, h2⟩
  | .own k ver, v, h => by simp only [Rep] at h ⊢; exact ⟨hp _ _ _ h.1, h.2⟩
  | .el sz l i off, v, h => by
    simp only [Rep] at h ⊢
    obtain ⟨b, o, vs, h1, h2, h3, h4⟩ := h
    exact ⟨b, o, vs, h1, h2, RepL.mono hK (PLe.refl _) l vs h3, h4.mono hK⟩
  | .elo k ver sz i off, v, h => by
    simp only [Rep] at h ⊢
    obtain ⟨b, n, c, h1, h2⟩ := h
    exact ⟨b, n, c, hp _ _ _ h1, h2⟩
  | .any, _, _ => by simp only [Rep]
theorem RepL.mono {K K' : Kn} {pl pl' : Pl} (hK : KLe K K') (hp : PLe pl pl') : ∀ (l : List D) (vs : List Value), RepL K pl l vs → RepL K' pl' l vs
  | [], _, h => by simpa [RepL] using h
  | d :: l, vs, h => by
    simp only [RepL] at h ⊢
    obtain ⟨v, r, h1, h2, h3⟩ := h
    exact ⟨v, r, h1, Rep.mono hK hp d v h2, RepL.mono hK hp l r h3⟩
end

theorem RepL.length {K pl} : ∀ {l vs}, RepL K pl l vs → vs.length = l.length
  | [], _, h => by simp [RepL] at h; simp [h]
  | d :: l, vs, h => by
    simp only [RepL] at h
    obtain ⟨v, r, h1, _, h3⟩ := h
    simp [h1, RepL.length h3]

theorem RepL.get {K pl} : ∀ {l vs} (i : Nat) {d}, RepL K pl l vs → l[i]? = some d → ∃ v, vs[i]? = some v ∧ Rep K pl d v
  | [], _, _, _, _, h => by simp at h
  | x :: l, vs, i, d, h, hi => by
    simp only [RepL] at h
    obtain ⟨v, r, rfl, h2, h3⟩ := h
    cases i with
    | zero => simp at hi; subst hi; exact ⟨v, by simp, h2⟩
    | succ i => simp at hi ⊢; exact RepL.get i h3 hi

theorem RepL.append {K pl} : ∀ {l l' vs vs'}, RepL K pl l vs → RepL K pl l' vs' → RepL K pl (l ++ l') (vs ++ vs')
  | [], _, _, _, h, h' => by simp [RepL] at h; simpa [h] using h'
  | d :: l, l', vs, vs', h, h' => by
    simp only [RepL] at h
    obtain ⟨v, r, rfl, h2, h3⟩ := h
    simp only [List.cons_append, RepL]
    exact ⟨v, r ++ vs', rfl, h2, h3.append h'⟩

theorem nth_eq (l : List D) (i : Nat) : nth l i = l[i]? := by
  induction l generalizing i with
  | nil => simp [nth]
  | cons d l ih => cases i <;> simp [nth, ih]

theorem dropN_eq (l : List D) (n : Nat) : dropN l n = l.drop n := by
  induction l generalizing n with
  | nil => cases n <;> simp [dropN]
  | cons d l ih => cases n <;> simp [dropN, ih]

theorem takeN_eq : ∀ (l : List D) (n : Nat) (r : List D), takeN l n = some r → n ≤ l.length ∧ r = l.take n
  | _, 0, r, h => by simp [takeN] at h; simp [h]
  | [], n + 1, r, h => by simp [takeN] at h
  | d :: l, n + 1, r, h => by
    simp only [takeN] at h
    split at h
    · rename_i r' hr
      simp at h; subst h
      obtain ⟨h1, h2⟩ := takeN_eq l n r' hr
      exact ⟨by simp; omega, by simp [h2]⟩
    · cases h

theorem RepL.drop {K pl} : ∀ {l vs} (n : Nat), RepL K pl l vs → RepL K pl (l.drop n) (vs.drop n)
  | _, _, 0, h => by simpa using h
  | [], vs, n + 1, h => by simp [RepL] at h; simp [h, RepL]
  | d :: l, vs, n + 1, h => by
    simp only [RepL] at h
    obtain ⟨v, r, rfl, _, h3⟩ := h
    simpa using RepL.drop n h3

theorem RepL.take {K pl} : ∀ {l vs} (n : Nat), RepL K pl l vs → RepL K pl (l.take n) (vs.take n)
  | l, vs, 0, _ => by simp [RepL]
  | [], vs, n + 1, h => by simp [RepL] at h; simp [h, RepL]
  | d :: l, vs, n + 1, h => by
    simp only [RepL] at h
    obtain ⟨v, r, rfl, h2, h3⟩ := h
    simp only [List.take_succ_cons, RepL]
    exact ⟨v, _, rfl, h2, RepL.take n h3⟩

theorem setN_eq : ∀ (l : List D) (n : Nat) (d : D) (r : List D), setN l n d = some r → n < l.length ∧ r = l.set n d
  | [], n, d, r, h => by cases n <;> simp [setN] at h
  | x :: l, 0, d, r, h => by simp [setN] at h; simp [h]
  | x :: l, n + 1, d, r, h => by
    simp only [setN] at h
    split at h
    · rename_i r' hr
      simp at h; subst h
      obtain ⟨h1, h2⟩ := setN_eq l n d r' hr
      exact ⟨by simp; omega, by simp [h2]⟩
    · cases h

theorem RepL.set {K pl} : ∀ {l vs} (n : Nat) {d v}, RepL K pl l vs → Rep K pl d v → RepL K pl (l.set n d) (vs.set n v)
  | [], vs, n, d, v, h, hv => by simp [RepL] at h; simp [h, RepL]
  | x :: l, vs, 0, d, v, h, hv => by
    simp only [RepL] at h
    obtain ⟨u, r, rfl, h2, h3⟩ := h
    simp only [List.set_cons_zero, RepL]
    exact ⟨v, r, rfl, hv, h3⟩
  | x :: l, vs, n + 1, d, v, h, hv => by
    simp only [RepL] at h
    obtain ⟨u, r, rfl, h2, h3⟩ := h
    simp only [List.set_cons_succ, RepL]
    exact ⟨u, _, rfl, h2, RepL.set n h3 hv⟩

/-- The splice of cells. -/
def splice : List Value → Nat → List Value → List Value
  | l, _, [] => l
  | l, o, v :: r => splice (l.set o v) (o + 1) r

theorem RepL.splice {K pl} : ∀ {ds : List D} {us : List Value} {l vs} (o : Nat) {r}, RepL K pl l vs → RepL K pl ds us → setL l o ds = some r →
    RepL K pl r (AM.splice vs o us) ∧ o + us.length ≤ vs.length ∨ (us = [] ∧ r = l)
  | [], us, l, vs, o, r, h, hu, hr => by
    simp [RepL] at hu; simp [setL] at hr; exact .inr ⟨hu, hr.symm⟩
  | d :: ds, us, l, vs, o, r, h, hu, hr => by
    simp only [RepL] at hu
    obtain ⟨v, us, rfl, h2, h3⟩ := hu
    simp only [setL] at hr
    split at hr
    · rename_i l' hl'
      obtain ⟨hlt, rfl⟩ := setN_eq _ _ _ _ hl'
      have hl := h.length
      have h4 := h.set o h2
      rcases RepL.splice (o + 1) h4 h3 hr with ⟨h5, h6⟩ | ⟨rfl, rfl⟩
      · exact .inl ⟨h5, by simp at h6 ⊢; omega⟩
      · exact .inl ⟨by simpa [AM.splice] using h4, by simp; omega⟩
    · cases hr

theorem splice_eq : ∀ (us l : List Value) (o : Nat), o + us.length ≤ l.length → AM.splice l o us = l.take o ++ us ++ l.drop (o + us.length)
  | [], l, o, _ => by simp [AM.splice]
  | v :: us, l, o, h => by
    simp only [AM.splice, List.length_cons] at h ⊢
    rw [splice_eq us (l.set o v) (o + 1) (by simp; omega)]
    have := list_seg_step l o v us (by omega)
    simpa [Nat.add_assoc, Nat.add_comm 1] using this
theorem Rep.one {K pl d v} (h : Rep K pl d v) (hd : isOne d = true) : v.cells = #[v] ∧ v.oneCell' = true := by
  cases d <;> simp only [isOne, Bool.false_eq_true] at hd <;> simp only [Rep] at h
  case int => subst h; exact ⟨rfl, rfl⟩
  case bool => subst h; exact ⟨rfl, rfl⟩
  case str => subst h; exact ⟨rfl, rfl⟩
  case ls => obtain ⟨a, n, c, rfl, _⟩ := h; exact ⟨rfl, rfl⟩
  case mp => rcases h with ⟨rfl, _⟩ | ⟨b, kvs, vvs, rfl, _⟩ <;> exact ⟨rfl, rfl⟩
  case fn => obtain ⟨cs, rfl, _⟩ := h; exact ⟨rfl, rfl⟩
  case nil => rcases h with rfl | rfl <;> exact ⟨rfl, rfl⟩
  case boxi => obtain ⟨b, _, rfl⟩ := h; exact ⟨rfl, rfl⟩
  case bsl => obtain ⟨b, o, c, _, rfl, _⟩ := h; exact ⟨rfl, rfl⟩
  case ownm => obtain ⟨_, r, rfl⟩ := h; exact ⟨rfl, rfl⟩
  case glob => subst h; exact ⟨rfl, rfl⟩
  case box => obtain ⟨b, _, rfl⟩ := h; exact ⟨rfl, rfl⟩
  case own => obtain ⟨_, a, n, c, rfl⟩ := h; exact ⟨rfl, rfl⟩
  case el => obtain ⟨b, o, vs, rfl, _⟩ := h; exact ⟨rfl, rfl⟩
  case elo => obtain ⟨b, n, c, _, rfl⟩ := h; exact ⟨rfl, rfl⟩

theorem Rep.cells {K pl n d v c} (h : Rep K pl d v) (hc : cellsD n d = some c) : RepL K pl c v.cells.toList ∧ (∀ u ∈ v.cells.toList, u.oneCell' = true) ∧ (∀ m, n = some m → c.length = m ∧ v = .agg v.cells) ∧ (n = none → v.cells = #[v] ∧ c = [d]) := by
  unfold cellsD at hc
  split at hc
  · cases ho : isOne d with
    | false => simp [ho] at hc
    | true =>
      simp [ho] at hc; subst hc
      obtain ⟨h1, h2⟩ := h.one ho
      rw [h1]
      exact ⟨by simp only [RepL]; exact ⟨v, [], rfl, h, rfl⟩, by simp [h2], nofun, fun _ => ⟨h1.symm ▸ rfl, rfl⟩⟩
  · split at hc
    · rename_i m _ l
      cases hb : lenB l m with
      | false => simp [hb] at hc
      | true =>
        simp [hb] at hc; subst hc
        simp only [Rep] at h
        obtain ⟨cs, rfl, h2, h3⟩ := h
        refine ⟨by simpa [Value.cells] using h2, by simpa [Value.cells] using h3, fun m' hm => ?_, nofun⟩
        cases hm
        refine ⟨?_, rfl⟩
        clear h2
        induction l generalizing m with
        | nil => cases m <;> simp_all [lenB]
        | cons x l ih => cases m with
          | zero => simp [lenB] at hb
          | succ m => simp [lenB] at hb; simp [ih m hb]
    · cases hc
end Go.AM
