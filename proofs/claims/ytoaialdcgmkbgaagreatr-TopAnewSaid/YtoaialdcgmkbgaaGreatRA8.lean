import Derived.Test.YtoaialdcgmkbgaaGreatRA2
import Derived.Deep.MidRow

set_option linter.all false
namespace Go.AM
open Go Go.RowKit
abbrev Kn := Nat -> Option Obj
abbrev Pl := Nat -> Nat -> Option Value
def vK : Pl := fun _ _ => none
def KLe (K K' : Kn) : Prop := ∀ b o, K b = some o -> K' b = some o
def PLe (p p' : Pl) : Prop := ∀ k v x, p k v = some x -> p' k v = some x
theorem KLe.refl (K : Kn) : KLe K K := fun _ _ h => h
theorem PLe.refl (p : Pl) : PLe p p := fun _ _ _ h => h
theorem KLe.trans {a b c : Kn} (h : KLe a b) (h' : KLe b c) : KLe a c := fun _ _ e => h' _ _ (h _ _ e)
theorem PLe.trans {a b c : Pl} (h : PLe a b) (h' : PLe b c) : PLe a c := fun _ _ _ e => h' _ _ _ (h _ _ _ e)
theorem PLe.zero (p : Pl) : PLe vK p := fun _ _ _ h => by cases h
def qa (vs : List Value) : List Value := vs.flatMap (·.cells.toList)
def sized (sz : Nat) (vs : List Value) : Prop := ∀ v ∈ vs, v.cells.size = sz /\ ∀ c ∈ v.cells.toList, c.oneCell' = true
def Lies (K : Kn) (sz b off : Nat) (vs : List Value) : Prop := ∃ cs T fz, K b = some (.cells cs T fz) /\ sized sz vs /\ qa vs <+: cs.toList.drop off
def MapLies (K : Kn) (b : Nat) (kvs vvs : List Value) : Prop :=
 ∃ es clock, K b = some (.map es clock) /\ (es.toList.map fun e => (e.key, e.val)).Perm (kvs.zip vvs) /\ (∀ e ∈ es, e.born < clock) /\ (es.toList.map (·.born)).Nodup
mutual
def Rep (K : Kn) (pl : Pl) : D -> Value -> Prop
 | .int k n, v => v = .int k n
 | .bool b, v => v = .bool b
 | .str s, v => v = .string ⟨s.toArray⟩
 | .agg l, v => ∃ cs : List Value, v = .agg cs.toArray /\ RepL K pl l cs /\ ∀ c ∈ cs, c.oneCell' = true
 | .tup l, v => ∃ cs : List Value, v = .tuple cs.toArray /\ RepL K pl l cs
 | .ls sz l, v => ∃ a n cap, v = .slice a n cap /\ n = l.length /\ n <= cap /\ (a = none -> cap = 0) /\ (l = [] \/ ∃ b off vs, a = some ⟨b, off, none⟩ /\ RepL K vK l vs /\ Lies K sz b off vs)
 | .mp ks vs, v => (v = .map none /\ ks = [] /\ vs = []) \/ ∃ b kvs vvs, v = .map (some b) /\ RepL K vK ks kvs /\ RepL K vK vs vvs /\ ks.length = vs.length /\ MapLies K b kvs vvs
 | .fn f caps, v => ∃ cs : List Value, v = .func (.func f) #[] cs.toArray /\ RepL K pl caps cs
 | .nil, v => v = .pointer none \/ v = .nilFunc
 | .boxi k off, v => ∃ b, pl k 0 = some (.pointer (some ⟨b, 0, none⟩)) /\ v = .pointer (some ⟨b, off, none⟩)
 | .bsl k base sz len, v => ∃ b o cap, pl k 0 = some (.pointer (some ⟨b, 0, none⟩)) /\ v = .slice (some ⟨b, o, none⟩) len cap /\ len <= cap /\ (len = 0 \/ o = base)
 | .ownm k ver, v => pl k ver = some v /\ ∃ r, v = .map r
 | .glob g off, v => v = .pointer (some ⟨g, off, none⟩)
 | .osl k ver sz off len, v => ∃ a n c, pl k ver = some (.slice a n c) /\ off + len <= n /\ n <= c /\ v = .slice (if c = off then a else a.map (·.add (off * sz))) len (c - off)
 | .yld k, v => ∃ b, pl k 0 = some (.pointer (some ⟨b, 0, none⟩)) /\ v = .func (.yield b) #[] #[]
 | .ifc b, v => match b with | true => v = .nilIface | false => ∃ t p, v = .iface t p
 | .box k off, v => ∃ b, pl k 0 = some (.pointer (some ⟨b, 0, none⟩)) /\ v = .pointer (some ⟨b, off, none⟩)
 | .own k ver, v => pl k ver = some v /\ ∃ a n c, v = .slice a n c
 | .el sz l i off, v => ∃ b o vs, v = .pointer (some ⟨b, o + i * sz + off, none⟩) /\ i < l.length /\ RepL K vK l vs /\ Lies K sz b o vs
 | .elo k ver sz i off, v => ∃ b n c, pl k ver = some (.slice (some ⟨b, 0, none⟩) n c) /\ v = .pointer (some ⟨b, i * sz + off, none⟩)
 | .any, _ => True
def RepL (K : Kn) (pl : Pl) : List D -> List Value -> Prop
 | [], vs => vs = []
 | d :: l, vs => ∃ v r, vs = v :: r /\ Rep K pl d v /\ RepL K pl l r
end
theorem Lies.mono {K K' : Kn} (h : KLe K K') {sz b off vs} (hl : Lies K sz b off vs) : Lies K' sz b off vs := by
 obtain ⟨cs, T, fz, h1, h2⟩ := hl; exact ⟨cs, T, fz, h _ _ h1, h2⟩
theorem MapLies.mono {K K' : Kn} (h : KLe K K') {b kvs vvs} (hl : MapLies K b kvs vvs) : MapLies K' b kvs vvs := by
 obtain ⟨es, c, h1, h2⟩ := hl; exact ⟨es, c, h _ _ h1, h2⟩
mutual
theorem Rep.mono {K K' : Kn} {pl pl' : Pl} (hK : KLe K K') (hp : PLe pl pl') : ∀ (d : D) (v : Value), Rep K pl d v -> Rep K' pl' d v
 | .int _ _, _, h => by simpa [Rep] using h
 | .bool _, _, h => by simpa [Rep] using h
 | .str _, _, h => by simpa [Rep] using h
 | .agg l, v, h => by
   simp only [Rep] at h |-
   obtain ⟨cs, h1, h2, h3⟩ := h
   exact ⟨cs, h1, RepL.mono hK hp l cs h2, h3⟩
 | .tup l, v, h => by
   simp only [Rep] at h |-
   obtain ⟨cs, h1, h2⟩ := h
   exact ⟨cs, h1, RepL.mono hK hp l cs h2⟩
 | .ls sz l, v, h => by
   simp only [Rep] at h |-
   obtain ⟨a, n, cap, h1, h2, hc, h0, h3⟩ := h
   refine ⟨a, n, cap, h1, h2, hc, h0, ?_⟩
   rcases h3 with h3 | ⟨b, off, vs, h4, h5, h6⟩
   ·exact .inl h3
   ·exact .inr ⟨b, off, vs, h4, RepL.mono hK (PLe.refl _) l vs h5, h6.mono hK⟩
 | .mp ks vs, v, h => by
   simp only [Rep] at h |-
   rcases h with h | ⟨b, kvs, vvs, h1, h2, h3, h4, h5⟩
   ·exact .inl h
   ·exact .inr ⟨b, kvs, vvs, h1, RepL.mono hK (PLe.refl _) ks kvs h2, RepL.mono hK (PLe.refl _) vs vvs h3, h4, h5.mono hK⟩
 | .fn f l, v, h => by
   simp only [Rep] at h |-
   obtain ⟨cs, h1, h2⟩ := h
   exact ⟨cs, h1, RepL.mono hK hp l cs h2⟩
 | .nil, _, h => by simpa only [Rep] using h
 | .boxi k off, v, h => by
   simp only [Rep] at h |-
   obtain ⟨b, h1, h2⟩ := h
   exact ⟨b, hp _ _ _ h1, h2⟩
 | .bsl k base sz len, v, h => by
   simp only [Rep] at h |-
   obtain ⟨b, o, c, h1, h2⟩ := h
   exact ⟨b, o, c, hp _ _ _ h1, h2⟩
 | .ownm k ver, v, h => by simp only [Rep] at h |-; exact ⟨hp _ _ _ h.1, h.2⟩
 | .glob g off, _, h => by simpa [Rep] using h
 | .yld k, v, h => by
   simp only [Rep] at h |-
   obtain ⟨b, h1, h2⟩ := h
   exact ⟨b, hp _ _ _ h1, h2⟩
 | .osl k _ _ _ _, v, h => by
   simp only [Rep] at h |-
   obtain ⟨a, n, c, h1, h2⟩ := h
   exact ⟨a, n, c, hp _ _ _ h1, h2⟩
 | .ifc b, _, h => by cases b <;> simpa only [Rep] using h
 | .box k off, v, h => by
   simp only [Rep] at h |-
   obtain ⟨b, h1, h2⟩ := h
   exact ⟨b, hp _ _ _ h1, h2⟩
 | .own k ver, v, h => by simp only [Rep] at h |-; exact ⟨hp _ _ _ h.1, h.2⟩
 | .el sz l i off, v, h => by
   simp only [Rep] at h |-
   obtain ⟨b, o, vs, h1, h2, h3, h4⟩ := h
   exact ⟨b, o, vs, h1, h2, RepL.mono hK (PLe.refl _) l vs h3, h4.mono hK⟩
 | .elo k ver sz i off, v, h => by
   simp only [Rep] at h |-
   obtain ⟨b, n, c, h1, h2⟩ := h
   exact ⟨b, n, c, hp _ _ _ h1, h2⟩
 | .any, _, _ => by simp only [Rep]
theorem RepL.mono {K K' : Kn} {pl pl' : Pl} (hK : KLe K K') (hp : PLe pl pl') : ∀ (l : List D) (vs : List Value), RepL K pl l vs -> RepL K' pl' l vs
 | [], _, h => by simpa [RepL] using h
 | d :: l, vs, h => by
   simp only [RepL] at h |-
   obtain ⟨v, r, h1, h2, h3⟩ := h
   exact ⟨v, r, h1, Rep.mono hK hp d v h2, RepL.mono hK hp l r h3⟩
end
theorem RepL.length {K pl} : ∀ {l vs}, RepL K pl l vs -> vs.length = l.length
 | [], _, h => by simp [RepL] at h; simp [h]
 | d :: l, vs, h => by
   simp only [RepL] at h
   obtain ⟨v, r, h1, _, h3⟩ := h
   simp [h1, RepL.length h3]
theorem RepL.get {K pl} : ∀ {l vs} (i : Nat) {d}, RepL K pl l vs -> l[i]? = some d -> ∃ v, vs[i]? = some v /\ Rep K pl d v
 | [], _, _, _, _, h => by simp at h
 | x :: l, vs, i, d, h, hi => by
   simp only [RepL] at h
   obtain ⟨v, r, rfl, h2, h3⟩ := h
   cases i with
   | zero => simp at hi; subst hi; exact ⟨v, by simp, h2⟩
   | succ i => simp at hi |-; exact RepL.get i h3 hi
theorem RepL.append {K pl} : ∀ {l l' vs vs'}, RepL K pl l vs -> RepL K pl l' vs' -> RepL K pl (l ++ l') (vs ++ vs')
 | [], _, _, _, h, h' => by simp [RepL] at h; simpa [h] using h'
 | d :: l, l', vs, vs', h, h' => by
   simp only [RepL] at h
   obtain ⟨v, r, rfl, h2, h3⟩ := h
   simp only [List.cons_append, RepL]
   exact ⟨v, r ++ vs', rfl, h2, h3.append h'⟩
theorem kb8 (l : List D) (i : Nat) : kL l i = l[i]? := by
 induction l generalizing i with
 | nil => simp [kL]
 | cons d l ih => cases i <;> simp [kL, ih]
theorem jW0 (l : List D) (n : Nat) : jN l n = l.drop n := by
 induction l generalizing n with
 | nil => cases n <;> simp [jN]
 | cons d l ih => cases n <;> simp [jN, ih]
theorem jm9 : ∀ (l : List D) (n : Nat) (r : List D), jM l n = some r -> n <= l.length /\ r = l.take n
 | _, 0, r, h => by simp [jM] at h; simp [h]
 | [], n + 1, r, h => by simp [jM] at h
 | d :: l, n + 1, r, h => by
   simp only [jM] at h
   split at h
   ·rename_i r' hr
    simp at h; subst h
    obtain ⟨h1, h2⟩ := jm9 l n r' hr
    exact ⟨by simp; omega, by simp [h2]⟩
   ·cases h
theorem RepL.drop {K pl} : ∀ {l vs} (n : Nat), RepL K pl l vs -> RepL K pl (l.drop n) (vs.drop n)
 | _, _, 0, h => by simpa using h
 | [], vs, n + 1, h => by simp [RepL] at h; simp [h, RepL]
 | d :: l, vs, n + 1, h => by
   simp only [RepL] at h
   obtain ⟨v, r, rfl, _, h3⟩ := h
   simpa using RepL.drop n h3
theorem RepL.take {K pl} : ∀ {l vs} (n : Nat), RepL K pl l vs -> RepL K pl (l.take n) (vs.take n)
 | l, vs, 0, _ => by simp [RepL]
 | [], vs, n + 1, h => by simp [RepL] at h; simp [h, RepL]
 | d :: l, vs, n + 1, h => by
   simp only [RepL] at h
   obtain ⟨v, r, rfl, h2, h3⟩ := h
   simp only [List.take_succ_cons, RepL]
   exact ⟨v, _, rfl, h2, RepL.take n h3⟩
theorem kg8 : ∀ (l : List D) (n : Nat) (d : D) (r : List D), ki l n d = some r -> n < l.length /\ r = l.set n d
 | [], n, d, r, h => by cases n <;> simp [ki] at h
 | x :: l, 0, d, r, h => by simp [ki] at h; simp [h]
 | x :: l, n + 1, d, r, h => by
   simp only [ki] at h
   split at h
   ·rename_i r' hr
    simp at h; subst h
    obtain ⟨h1, h2⟩ := kg8 l n d r' hr
    exact ⟨by simp; omega, by simp [h2]⟩
   ·cases h
theorem RepL.set {K pl} : ∀ {l vs} (n : Nat) {d v}, RepL K pl l vs -> Rep K pl d v -> RepL K pl (l.set n d) (vs.set n v)
 | [], vs, n, d, v, h, hv => by simp [RepL] at h; simp [h, RepL]
 | x :: l, vs, 0, d, v, h, hv => by
   simp only [RepL] at h
   obtain ⟨u, r, rfl, h2, h3⟩ := h
   simp only [List.set_cons_zero, RepL]
   exact ⟨v, r, rfl, hv, h3⟩
 | x :: l, vs, n + 1, d, v, h, hv => by
   simp only [RepL] at h
   obtain ⟨u, r, rfl, h2, h3⟩ := h
   simp only [List.set_cons_succ, RepL]
   exact ⟨u, _, rfl, h2, RepL.set n h3 hv⟩
def splice : List Value -> Nat -> List Value -> List Value
 | l, _, [] => l
 | l, o, v :: r => splice (l.set o v) (o + 1) r
theorem RepL.splice {K pl} : ∀ {ds : List D} {us : List Value} {l vs} (o : Nat) {r}, RepL K pl l vs -> RepL K pl ds us -> kd l o ds = some r ->
  RepL K pl r (AM.splice vs o us) /\ o + us.length <= vs.length \/ (us = [] /\ r = l)
 | [], us, l, vs, o, r, h, hu, hr => by
   simp [RepL] at hu; simp [kd] at hr; exact .inr ⟨hu, hr.symm⟩
 | d :: ds, us, l, vs, o, r, h, hu, hr => by
   simp only [RepL] at hu
   obtain ⟨v, us, rfl, h2, h3⟩ := hu
   simp only [kd] at hr
   split at hr
   ·rename_i l' hl'
    obtain ⟨hlt, rfl⟩ := kg8 _ _ _ _ hl'
    have hl := h.length
    have h4 := h.set o h2
    rcases RepL.splice (o + 1) h4 h3 hr with ⟨h5, h6⟩ | ⟨rfl, rfl⟩
    ·exact .inl ⟨h5, by simp at h6 |-; omega⟩
    ·exact .inl ⟨by simpa [AM.splice] using h4, by simp; omega⟩
   ·cases hr
theorem xF : ∀ (us l : List Value) (o : Nat), o + us.length <= l.length -> AM.splice l o us = l.take o ++ us ++ l.drop (o + us.length)
 | [], l, o, _ => by simp [AM.splice]
 | v :: us, l, o, h => by
   simp only [AM.splice, List.length_cons] at h |-
   rw [xF us (l.set o v) (o + 1) (by simp; omega)]
   have := list_seg_step l o v us (by omega)
   simpa [Nat.add_assoc, Nat.add_comm 1] using this
theorem Rep.one {K pl d v} (h : Rep K pl d v) (hd : kj d = true) : v.cells = #[v] /\ v.oneCell' = true := by
 cases d <;> simp only [kj, Bool.false_eq_true] at hd <;> simp only [Rep] at h
 case int => subst h; exact ⟨rfl, rfl⟩
 case bool => subst h; exact ⟨rfl, rfl⟩
 case str => subst h; exact ⟨rfl, rfl⟩
 case ls => obtain ⟨a, n, c, rfl, _⟩ := h; exact ⟨rfl, rfl⟩
 case mp => rcases h with ⟨rfl, _⟩ | ⟨b, kvs, vvs, rfl, _⟩ <;> exact ⟨rfl, rfl⟩
 case fn => obtain ⟨cs, rfl, _⟩ := h; exact ⟨rfl, rfl⟩
 case nil => rcases h with rfl | rfl <;> exact ⟨rfl, rfl⟩
 case boxi => obtain ⟨b, _, rfl⟩ := h; exact ⟨rfl, rfl⟩
 case bsl => obtain ⟨b, o, c, _, rfl, _⟩ := h; exact ⟨rfl, rfl⟩
 case ownm => obtain ⟨_, r, rfl⟩ := h; exact ⟨rfl, rfl⟩
 case glob => subst h; exact ⟨rfl, rfl⟩
 case yld => obtain ⟨b, _, rfl⟩ := h; exact ⟨rfl, rfl⟩
 case osl => obtain ⟨a, n, c, _, _, _, rfl⟩ := h; exact ⟨rfl, rfl⟩
 case ifc b =>
  cases b with
  | true => simp only at h; subst h; exact ⟨rfl, rfl⟩
  | false => simp only at h; obtain ⟨t, p, rfl⟩ := h; exact ⟨rfl, rfl⟩
 case box => obtain ⟨b, _, rfl⟩ := h; exact ⟨rfl, rfl⟩
 case own => obtain ⟨_, a, n, c, rfl⟩ := h; exact ⟨rfl, rfl⟩
 case el => obtain ⟨b, o, vs, rfl, _⟩ := h; exact ⟨rfl, rfl⟩
 case elo => obtain ⟨b, n, c, _, rfl⟩ := h; exact ⟨rfl, rfl⟩
theorem Rep.cells {K pl n d v c} (h : Rep K pl d v) (hc : jH n d = some c) : RepL K pl c v.cells.toList /\ (∀ u ∈ v.cells.toList, u.oneCell' = true) /\ (∀ m, n = some m -> c.length = m /\ v = .agg v.cells) /\ (n = none -> v.cells = #[v] /\ c = [d]) := by
 unfold jH at hc
 split at hc
 ·cases ho : kj d with
  | false => simp [ho] at hc
  | true =>
    simp [ho] at hc; subst hc
    obtain ⟨h1, h2⟩ := h.one ho
    rw [h1]
    exact ⟨by simp only [RepL]; exact ⟨v, [], rfl, h, rfl⟩, by simp [h2], nofun, fun _ => ⟨h1.symm ▸ rfl, rfl⟩⟩
 ·split at hc
  ·rename_i m _ l
   cases hb : kp l m with
   | false => simp [hb] at hc
   | true =>
     simp [hb] at hc; subst hc
     simp only [Rep] at h
     obtain ⟨cs, rfl, h2, h3⟩ := h
     refine ⟨by simpa [Value.cells] using h2, by simpa [Value.cells] using h3, fun m' hm => ?_, nofun⟩
     cases hm
     refine ⟨?_, rfl⟩
     clear h2
     induction l generalizing m with
     | nil => cases m <;> simp_all [kp]
     | cons x l ih => cases m with
       | zero => simp [kp] at hb
       | succ m => simp [kp] at hb; simp [ih m hb]
  ·cases hc
end Go.AM
set_option linter.all false
namespace Go.AM
open Go Go.RowKit
def vj : Value -> Option Nat
 | .pointer (some a) => some a.block
 | .slice (some a) _ _ => some a.block
 | .map (some r) => some r
 | _ => none
def EntOk (K : Kn) (pl : Pl) (w : World) (k : Nat) : Ent -> Prop
 | .cells l => ∃ b T, ∃ cs : List Value, pl k 0 = some (.pointer (some ⟨b, 0, none⟩)) /\ K b = none /\ w.heap[b]? = some (.cells cs.toArray T (0, 0)) /\ RepL K pl l cs /\ ∀ c ∈ cs, c.oneCell' = true
 | .tcells T l => ∃ b, ∃ cs : List Value, pl k 0 = some (.pointer (some ⟨b, 0, none⟩)) /\ K b = none /\ w.heap[b]? = some (.cells cs.toArray T (0, 0)) /\ RepL K pl l cs /\ ∀ c ∈ cs, c.oneCell' = true /\ c ≠ .nilFunc
 | .arr e sz ver rows => ∃ v vs, pl k ver = some v /\ w.ownsRow 0 e sz v rows.length (qa vs) /\ RepL K vK rows vs /\ sized sz vs /\ (∀ b, v.ownBlock = some b -> K b = none) /\ (∀ ver', ver < ver' -> pl k ver' = none) /\ (ver = 0 -> rows = [] -> v = .slice none 0 0)
 | .gone => True
 | .fresh => ∀ ver, pl k ver = none
 | .obj o => ∃ b, pl k 0 = some (.pointer (some ⟨b, 0, none⟩)) /\ K b = none /\ w.heap[b]? = some o
 | .map ks vs => ∃ b es clock kvs vvs, pl k 0 = some (.map (some b)) /\ K b = none /\ w.heap[b]? = some (.map es clock) /\ RepL K vK ks kvs /\ RepL K pl vs vvs /\ ks.length = vs.length /\
    (es.toList.map fun e => (e.key, e.val)).Perm (kvs.zip vvs) /\ (∀ e ∈ es, e.born < clock) /\ (es.toList.map (·.born)).Nodup
 | .iter cur ks vs => ∃ r, pl k 0 = some (.pointer (some ⟨r, 0, none⟩)) /\ K r = none /\
    ((w.heap[r]? = some (.mapIter none 0 #[] 0) /\ ks = [] /\ vs = [] /\ cur = none) \/
    ∃ m es clock seen kvs vvs, w.heap[r]? = some (.mapIter (some m) clock seen clock) /\ K m = some (.map es clock) /\ (∀ e ∈ es, e.born < clock) /\ (es.toList.map (·.born)).Nodup /\ RepL K vK ks kvs /\ RepL K vK vs vvs /\ ks.length = vs.length /\
     ((es.toList.filter fun e => !seen.contains e.born).map fun e => (e.key, e.val)).Perm (kvs.zip vvs) /\
     (∀ dk dv, cur = some (dk, dv) -> ∃ e ∈ es, seen.back? = some e.born /\ Rep K vK dk e.key /\ Rep K vK dv e.val))
 | .mapx g ks vs => ∃ kvs vvs, pl k 0 = some (.map (some g.m)) /\ K g.m = none /\ w.heap[g.m]? = some (.map g.es g.clock) /\ RepL K vK ks kvs /\ RepL K vK vs vvs /\ ks.length = vs.length /\
    (g.es.toList.map fun e => (e.key, e.val)).Perm (kvs.zip vvs) /\ (∀ e ∈ g.es, e.born < g.clock) /\ (g.es.toList.map (·.born)).Nodup
 | .ito g seen cur ks vs => ∃ r kvs vvs, pl k 0 = some (.pointer (some ⟨r, 0, none⟩)) /\ K r = none /\ w.heap[r]? = some (.mapIter (some g.m) g.clock seen g.clock) /\ RepL K vK ks kvs /\ RepL K vK vs vvs /\ ks.length = vs.length /\
    ((g.es.toList.filter fun e => !seen.contains e.born).map fun e => (e.key, e.val)).Perm (kvs.zip vvs) /\
    (∀ dk dv, cur = some (dk, dv) -> ∃ e ∈ g.es, seen.back? = some e.born /\ Rep K vK dk e.key /\ Rep K vK dv e.val)
def jW (pl : Pl) (k : Nat) : Ent -> Option Nat
 | .cells _ => (pl k 0).bind vj
 | .arr _ _ ver _ => (pl k ver).bind vj
 | .gone => none
 | .fresh => none
 | .obj _ => (pl k 0).bind vj
 | .map _ _ => (pl k 0).bind vj
 | .iter _ _ _ => (pl k 0).bind vj
 | .mapx _ _ _ => (pl k 0).bind vj
 | .ito _ _ _ _ _ => (pl k 0).bind vj
 | .tcells _ _ => (pl k 0).bind vj
structure Tab (K : Kn) (pl : Pl) (w : World) (bx : List Ent) : Prop where
 ok : ∀ k e, bx[k]? = some e -> EntOk K pl w k e
 sep : ∀ i j e f b, i ≠ j -> bx[i]? = some e -> bx[j]? = some f -> jW pl i e = some b -> jW pl j f ≠ some b
 free : ∀ k ver, bx.length <= k -> pl k ver = none
structure Chg (S : Nat -> Prop) (w w' : World) : Prop where
 os : w'.os = w.os
 tape : w'.tape = w.tape
 output : w'.output = w.output
 size : w.heap.size <= w'.heap.size
 block : ∀ k, k < w.heap.size -> ¬ S k -> w'.heap[k]? = w.heap[k]?
theorem Chg.refl (S : Nat -> Prop) (w : World) : Chg S w w := ⟨rfl, rfl, rfl, Nat.le_refl _, fun _ _ _ => rfl⟩
theorem Chg.trans {S S' : Nat -> Prop} {a b c : World} (h : Chg S a b) (h' : Chg S' b c) (hS : ∀ k, k < a.heap.size -> S' k -> S k) : Chg S a c :=
 ⟨h'.os.trans h.os, h'.tape.trans h.tape, h'.output.trans h.output, Nat.le_trans h.size h'.size,
   fun k hk hn => (h'.block k (Nat.lt_of_lt_of_le hk h.size) (fun hs => hn (hS k hk hs))).trans (h.block k hk hn)⟩
def GlobOk (gt : Nat -> Option (List D)) (K : Kn) : Prop := ∀ g l, gt g = some l -> ∃ cs T fz, K g = some (.cells cs T fz) /\ RepL K vK l cs.toList /\ ∀ c ∈ cs.toList, c.oneCell' = true
theorem GlobOk.mono {gt : Nat -> Option (List D)} {K K' : Kn} (h : GlobOk gt K) (hK : KLe K K') : GlobOk gt K' := fun g l hg => by
 obtain ⟨cs, T, fz, h1, h2, h3⟩ := h g l hg
 exact ⟨cs, T, fz, hK _ _ h1, RepL.mono hK (PLe.refl _) _ _ h2, h3⟩
structure Fr where
 S : Nat -> Prop
 w : World
 K : Kn
 n0 : Nat
 pl : Pl
 gt : Nat -> Option (List D)
structure Inv (F : Fr) (K : Kn) (pl : Pl) (bx : List Ent) (w : World) : Prop where
 chg : Chg F.S F.w w
 mod : ∀ b o, K b = some o -> w.heap[b]? = some o
 le : KLe F.K K
 new : ∀ b o, K b = some o -> F.K b = some o \/ F.S b \/ F.w.heap.size <= b
 tab : Tab K pl w bx
 own : ∀ k e b, bx[k]? = some e -> jW pl k e = some b -> F.S b \/ F.w.heap.size <= b
 len : F.n0 <= bx.length
 keep : ∀ k ver x, k < F.n0 -> F.pl k ver = some x -> pl k ver = some x
 glob : GlobOk F.gt K
def qo (a : Act) (g : G) : Prop := ∀ p ∈ g, a.tmps.getD p.1 undef = .bool p.2
theorem kF (a : Act) : qo a [] := fun _ h => by cases h
def SlotOk (K : Kn) (pl : Pl) (env : x4) (a : Act) (s : Nat) : Prop :=
 ∀ g d, get env s = some (g, d) -> (g = [] \/ jh g env s = true) -> (qo a g -> Rep K pl d (a.tmps.getD s undef)) /\ (¬ qo a g -> a.tmps.getD s undef = undef)
theorem SlotOk.mono {K K' pl pl' env a s} (hK : KLe K K') (hp : PLe pl pl') (h : SlotOk K pl env a s) : SlotOk K' pl' env a s :=
 fun g d hg hf => ⟨fun hh => Rep.mono hK hp _ _ ((h g d hg hf).1 hh), (h g d hg hf).2⟩
theorem qw {a b : Bool} : bA a b = true ↔ a = true /\ b = true := by cases a <;> cases b <;> simp [bA]
theorem yw {a b : Bool} : bO a b = true ↔ a = true \/ b = true := by cases a <;> cases b <;> simp [bO]
theorem ZU {a : Bool} : bN a = true ↔ a = false := by cases a <;> simp [bN]
theorem kU7 {a b : Bool} : bE a b = true ↔ a = b := by cases a <;> cases b <;> simp [bE, bN]
theorem jT7 {s : Nat} {b : Bool} : ∀ {g : G}, jz g s b = true -> (s, b) ∈ g
 | [], h => by simp [jz] at h
 | (t, c) :: r, h => by
   simp only [jz, yw, qw, kU7, beq_iff_eq] at h
   rcases h with ⟨rfl, rfl⟩ | h
   ·simp
   ·exact List.mem_cons_of_mem _ (jT7 h)
theorem jn0 {a : Act} {g : G} (hg : qo a g) : ∀ {h : G}, jy h g = true -> qo a h
 | [], _ => kF a
 | (s, b) :: r, h => by
   simp only [jy, qw] at h
   intro p hp
   rcases List.mem_cons.1 hp with rfl | hp
   ·exact hg _ (jT7 h.1)
   ·exact jn0 hg h.2 p hp
theorem jA5 {K pl env a g s d} (hs : SlotOk K pl env a s) (hg : qo a g) (h : rd env g s = some d) : Rep K pl d (a.tmps.getD s undef) := by
 unfold rd at h
 split at h
 ·cases h
 ·rename_i d' hd; cases h
  exact (hs [] _ hd (.inl rfl)).1 (kF a)
 ·rename_i x t d' hd
  cases hb : bA (jy (x :: t) g) (jh (x :: t) env s) with
  | false => simp [hb] at h
  | true =>
    rw [hb] at h
    simp at h; subst h
    rw [qw] at hb
    exact (hs _ _ hd (.inr hb.2)).1 (jn0 hg hb.1)
theorem kP8 {env s d} (h : rd env [] s = some d) : get env s = some ([], d) := by
 unfold rd at h
 split at h
 ·cases h
 ·rename_i d' hd; cases h; exact hd
 ·rename_i x t d' hd
  obtain ⟨x1, x2⟩ := x
  simp [jy, jz, bA] at h
def js6 (g : G) : List Nat := g.map (·.1)
theorem jK7 {K pl env a g0} (hg : qo a g0) : ∀ {g : G}, (∀ p ∈ g, p ∈ g0) -> (∀ s ∈ js6 g, SlotOk K pl env a s) -> ∀ p ∈ jB env g0 g, p
 | [], _, _, p, hp => by simp [jB] at hp
 | (s, pol) :: r, hsub, hs, p, hp => by
   have ih := jK7 (K := K) (pl := pl) (env := env) hg (g := r) (fun p hp => hsub p (by simp [hp])) (fun s hs' => hs s (by simp [js6] at hs' |-; exact .inr hs'))
   simp only [jB] at hp
   split at hp
   ·rename_i b hb
    have h1 := jA5 (hs s (by simp [js6])) hg hb
    simp only [Rep] at h1
    have h2 := hg _ (hsub (s, pol) (by simp))
    rw [h1] at h2
    rcases List.mem_cons.1 hp with rfl | hp
    ·simpa using h2
    ·exact ih p hp
   ·exact ih p hp
theorem qE : ∀ {l : List Prop} {k : Prop}, jx l k -> (∀ p ∈ l, p) /\ k
 | [], _, h => ⟨fun _ h => (by cases h), h⟩
 | p :: l, k, h => by
   obtain ⟨h1, h2⟩ := h
   obtain ⟨h3, h4⟩ := qE h2
   refine ⟨fun q hq => ?_, h4⟩
   rcases List.mem_cons.1 hq with rfl | hq
   ·exact h1
   ·exact h3 q hq
theorem vQ : ∀ {hs : List Prop} {p : Prop}, km hs p -> (∀ h ∈ hs, h) -> p
 | [], _, h, _ => h
 | _ :: hs, _, h, ha => vQ (hs := hs) (h (ha _ (by simp))) fun q hq => ha q (by simp [hq])
theorem vF {hs : List Prop} (ha : ∀ h ∈ hs, h) : ∀ {ps : List Prop}, (∀ p ∈ jP hs ps, p) -> ∀ p ∈ ps, p
 | [], _, _, hp => by cases hp
 | q :: ps, h, p, hp => by
   rcases List.mem_cons.1 hp with rfl | hp
   ·exact vQ (h _ (by simp [jP])) ha
   ·exact vF ha (fun p hp => h p (by simp [jP, hp])) p hp
/-! ### What is written -/
theorem VV {a : Act} {d : Nat} {v : Value} (h : d < a.tmps.size) : (a.put (some d) v).tmps.getD d undef = v := by
 simp [Act.put, h]
theorem Ju {a : Act} {d s : Nat} {v : Value} (h : d ≠ s) : (a.put (some d) v).tmps.getD s undef = a.tmps.getD s undef := by
 simp [Act.put, Array.getElem?_setIfInBounds_ne h]
theorem JZ (a : Act) (d : Option Nat) (v : Value) : (a.put d v).tmps.size = a.tmps.size := by cases d <;> simp [Act.put]
theorem Xn {s : Nat} : ∀ {g : G}, jg g s = true -> ∀ p ∈ g, p.1 ≠ s
 | [], _, _, hp => by cases hp
 | (t, c) :: r, h, p, hp => by
   simp only [jg, qw, ZU, beq_eq_false_iff_ne] at h
   rcases List.mem_cons.1 hp with rfl | hp
   ·exact h.1
   ·exact Xn h.2 p hp
theorem Z7 {a : Act} {g : G} {d : Option Nat} {v : Value} (h : jk g d = true) : qo (a.put d v) g ↔ qo a g := by
 cases d with
 | none => exact Iff.rfl
 | some d =>
   simp only [jk] at h
   constructor
   ·intro hh p hp
    rw [<- hh p hp, Ju (fun e => Xn h p hp e.symm)]
   ·intro hh p hp
    rw [<- hh p hp, Ju (fun e => Xn h p hp e.symm)]
theorem SlotOk.put {K pl env a s} (hs : SlotOk K pl env a s) {dst : Option Nat} {g : G} {d : D} {v : Value} (hg : jk g dst = true) (hsz : ∀ t, dst = some t -> t < a.tmps.size)
  (h1 : qo a g -> Rep K pl d v) (h2 : ¬ qo a g -> v = undef) : SlotOk K pl (jw dst g d env) (a.put dst v) s := by
 cases dst with
 | none => exact hs
 | some t =>
   intro g' d' hget hf
   simp only [jw] at hget hf
   by_cases hst : t = s
   ·subst hst
    simp [get] at hget
    obtain ⟨rfl, rfl⟩ := hget
    rw [VV (hsz _ rfl), Z7 hg]
    exact ⟨h1, h2⟩
   ·have hne : (t == s) = false := by simpa using hst
    simp only [get, hne, cond_false] at hget
    rw [Ju hst]
    have hf' : g' = [] \/ (jg g' t = true /\ jh g' env s = true) := by
     rcases hf with hf | hf
     ·exact .inl hf
     ·simp only [jh, hne, cond_false, qw] at hf; exact .inr hf
    rcases hf' with rfl | ⟨h3, h4⟩
    ·have := hs [] d' hget (.inl rfl)
     exact ⟨fun _ => this.1 (kF a), fun h => absurd (kF _) h⟩
    ·rw [Z7 (d := some t) h3]
     exact hs g' d' hget (.inr h4)
/-! ### Tests -/
theorem jX9 {ops : Array Oper} {a : Act} {j s : Nat} (hj : (ops[j]?).bind (·.dst) = some s) (pol : Bool) : (yielded ops a.tmps j == some pol) = true ↔ a.tmps.getD s undef = .bool pol := by
 unfold yielded
 rw [hj]
 simp only [Option.bind_some, Array.getD_eq_getD_getElem?]
 cases h : a.tmps[s]? with
 | none => simp [undef]
 | some v => cases v <;> simp
theorem js5 {K pl env a} {ops : Array Oper} {o : Oper} {gd : Option (Nat × Bool)} {g : G}
  (hgd : match o.guard with | none => gd = none | some (j, pol) => ∃ s, (ops[j]?).bind (·.dst) = some s /\ gd = some (s, pol))
  (hg : ji env gd = some g) (hs : ∀ s ∈ js6 g, SlotOk K pl env a s) : (Region.wanted o (yielded ops a.tmps) = true ↔ qo a g) := by
 unfold Region.wanted
 cases ho : o.guard with
 | none =>
   rw [ho] at hgd; subst hgd
   simp [ji] at hg; subst hg
   exact ⟨fun _ => kF a, fun _ => rfl⟩
 | some jp =>
   obtain ⟨j, pol⟩ := jp
   rw [ho] at hgd
   obtain ⟨s, hj, rfl⟩ := hgd
   simp only []
   rw [jX9 hj]
   simp only [ji] at hg
   split at hg
   ·rename_i b hb; cases hg
    constructor
    ·intro h p hp; simp at hp; subst hp; exact h
    ·intro h; exact h (s, pol) (by simp)
   ·rename_i x t b hb
    cases hf : jh (x :: t) env s with
    | false => simp [hf] at hg
    | true =>
      simp [hf] at hg; subst hg
      have h0 := hs s (by simp [js6]) _ _ hb (.inr hf)
      constructor
      ·intro h p hp
       rcases List.mem_cons.1 hp with rfl | hp
       ·exact h
       ·by_cases hh : qo a (x :: t)
        ·exact hh p hp
        ·have := h0.2 hh; rw [h] at this; simp [undef] at this
      ·intro h; exact h (s, pol) (by simp)
   ·cases hg
/-! ### Operands -/
theorem kp9 {P : Program} {t : TypeId} {v : Value} {d : D} (h : ju0 P t v = some d) (K : Kn) (pl : Pl) : Rep K pl d v := by
 unfold ju0 at h
 split at h
 ·cases h; simp [Rep]
 ·cases h; simp [Rep]
 ·cases h; simp [Rep]
 ·split at h
  ·cases hz : zl P ‹_› with
   | none => simp [hz] at h
   | some n => simp [hz] at h; subst h; simp only [Rep]; exact ⟨none, 0, 0, rfl, rfl, Nat.le_refl _, fun _ => rfl, .inl trivial⟩
  ·cases h
 ·cases h; simp [Rep]
 ·cases h; simp [Rep]
 ·cases h; simp [Rep]
 ·cases h; simp [Rep]
 ·cases h
theorem kI {P : Program} {t : TypeId} {x : Operand} {x' : X} {K pl env a g d} (hx : qm P t x = some x') (hs : ∀ s ∈ jv3 x', SlotOk K pl env a s) (hg : qo a g)
  (he : jL env g x' = some d) : Rep K pl d (a.eval x) := by
 unfold qm at hx
 split at hx
 ·cases hx; exact jA5 (hs _ (by simp [jv3])) hg he
 ·rename_i v
  cases hc : ju0 P t v with
  | none => simp [hc] at hx
  | some d' =>
    simp [hc] at hx; subst hx
    simp [jL] at he; subst he
    exact kp9 hc K pl
 ·cases hx; simp [jL] at he; subst he; simp only [Rep, Act.eval]
 ·cases hx; simp [jL] at he; subst he; simp only [Rep, Act.eval]; exact ⟨[], rfl, by simp [RepL]⟩
theorem yu {P : Program} {K pl env a g} (hg : qo a g) : ∀ {xs : List Operand} {ts : List TypeId} {xs' : List X} {ds : List D}, zF P xs ts = some xs' -> (∀ s ∈ QW xs', SlotOk K pl env a s) ->
  kq env g xs' = some ds -> RepL K pl ds (xs.map a.eval)
 | [], [], xs', ds, h, _, he => by simp [zF] at h; subst h; simp [kq] at he; subst he; simp [RepL]
 | x :: xs, t :: ts, xs', ds, h, hs, he => by
   simp only [zF] at h
   split at h
   ·rename_i y ys hy hys
    cases h
    simp only [kq] at he
    split at he
    ·rename_i d l hd hl
     cases he
     simp only [List.map_cons, RepL]
     exact ⟨_, _, rfl, kI hy (fun s h' => hs s (by simp [QW, h'])) hg hd, yu hg hys (fun s h' => hs s (by simp [QW] at h' |-; exact .inr h')) hl⟩
    ·cases he
   ·cases h
 | [], _ :: _, _, _, h, _, _ => by simp [zF] at h
 | _ :: _, [], _, _, h, _, _ => by simp [zF] at h
end Go.AM
set_option linter.all false
namespace Go.AM
open Go Go.RowKit
theorem vd {pl k b l} (h : pl k 0 = some (.pointer (some ⟨b, 0, none⟩))) : jW pl k (.cells l) = some b := by simp [jW, h, vj]
theorem zP {pl k b ks vs} (h : pl k 0 = some (.map (some b))) : jW pl k (.map ks vs) = some b := by simp [jW, h, vj]
theorem vC {pl k b cur ks vs} (h : pl k 0 = some (.pointer (some ⟨b, 0, none⟩))) : jW pl k (.iter cur ks vs) = some b := by simp [jW, h, vj]
theorem ZI {pl k g ks vs} (h : pl k 0 = some (.map (some g.m))) : jW pl k (.mapx g ks vs) = some g.m := by simp [jW, h, vj]
theorem Xw {pl k b g seen cur ks vs} (h : pl k 0 = some (.pointer (some ⟨b, 0, none⟩))) : jW pl k (.ito g seen cur ks vs) = some b := by simp [jW, h, vj]
theorem xQ {pl k b o} (h : pl k 0 = some (.pointer (some ⟨b, 0, none⟩))) : jW pl k (.obj o) = some b := by simp [jW, h, vj]
theorem JM {pl k b T l} (h : pl k 0 = some (.pointer (some ⟨b, 0, none⟩))) : jW pl k (.tcells T l) = some b := by simp [jW, h, vj]
theorem EntOk.move {K K' : Kn} {pl pl' : Pl} {k : Nat} {w w' : World} {e : Ent} (h : EntOk K pl w k e) (hK : KLe K K') (hp : PLe pl pl')
  (hw : ∀ b, jW pl k e = some b -> w'.heap[b]? = w.heap[b]? /\ K' b = none) (hv : ∀ ver, pl' k ver = pl k ver) : EntOk K' pl' w' k e := by
 cases e with
 | gone => trivial
 | fresh => intro ver; rw [hv]; exact h ver
 | obj o =>
   obtain ⟨b, h1, h2, h3⟩ := h
   obtain ⟨h4, h5⟩ := hw b (xQ h1)
   exact ⟨b, by rw [hv]; exact h1, h5, by rw [h4]; exact h3⟩
 | mapx g ks vs =>
   obtain ⟨kvs, vvs, h1, h3, h4, h5, h6, h7⟩ := h
   obtain ⟨h8, h9⟩ := hw g.m (ZI h1)
   exact ⟨kvs, vvs, by rw [hv]; exact h1, h9, by rw [h8]; exact h4, RepL.mono hK (PLe.refl _) _ _ h5, RepL.mono hK (PLe.refl _) _ _ h6, h7⟩
 | ito g seen cur ks vs =>
   obtain ⟨r, kvs, vvs, h1, h3, h4, h5, h6, h7, q1, q2⟩ := h
   obtain ⟨h8, h9⟩ := hw r (Xw h1)
   exact ⟨r, kvs, vvs, by rw [hv]; exact h1, h9, by rw [h8]; exact h4, RepL.mono hK (PLe.refl _) _ _ h5, RepL.mono hK (PLe.refl _) _ _ h6, h7, q1, fun dk dv hc => by
    obtain ⟨e, he, p1, p2, p3⟩ := q2 dk dv hc
    exact ⟨e, he, p1, Rep.mono hK (PLe.refl _) _ _ p2, Rep.mono hK (PLe.refl _) _ _ p3⟩⟩
 | iter cur ks vs =>
   obtain ⟨r, h1, h3, h4⟩ := h
   obtain ⟨h8, h9⟩ := hw r (vC h1)
   refine ⟨r, by rw [hv]; exact h1, h9, ?_⟩
   rcases h4 with h4 | ⟨m, es, clock, seen, kvs, vvs, h4, h5, h6, h7, g1, g2, g3, g4, g5⟩
   ·exact .inl ⟨by rw [h8]; exact h4.1, h4.2⟩
   ·exact .inr ⟨m, es, clock, seen, kvs, vvs, by rw [h8]; exact h4, hK _ _ h5, h6, h7, RepL.mono hK (PLe.refl _) _ _ g1, RepL.mono hK (PLe.refl _) _ _ g2, g3, g4, fun dk dv hc => by
     obtain ⟨e, he, q1, q2, q3⟩ := g5 dk dv hc
     exact ⟨e, he, q1, Rep.mono hK (PLe.refl _) _ _ q2, Rep.mono hK (PLe.refl _) _ _ q3⟩⟩
 | map ks vs =>
   obtain ⟨b, es, clock, kvs, vvs, h1, h3, h4, h5, h6, h7⟩ := h
   obtain ⟨h8, h9⟩ := hw b (zP h1)
   exact ⟨b, es, clock, kvs, vvs, by rw [hv]; exact h1, h9, by rw [h8]; exact h4, RepL.mono hK (PLe.refl _) _ _ h5, RepL.mono hK hp _ _ h6, h7⟩
 | cells l =>
   obtain ⟨b, T, cs, h1, h3, h4, h5, h6⟩ := h
   obtain ⟨h7, h8⟩ := hw b (vd h1)
   exact ⟨b, T, cs, by rw [hv]; exact h1, h8, by rw [h7]; exact h4, RepL.mono hK hp _ _ h5, h6⟩
 | tcells T l =>
   obtain ⟨b, cs, h1, h3, h4, h5, h6⟩ := h
   obtain ⟨h7, h8⟩ := hw b (JM h1)
   exact ⟨b, cs, by rw [hv]; exact h1, h8, by rw [h7]; exact h4, RepL.mono hK hp _ _ h5, h6⟩
 | arr ty sz ver rows =>
   obtain ⟨v, vs, h1, h2, h3, h4, h5, h6⟩ := h
   refine ⟨v, vs, by rw [hv]; exact h1, ?_, RepL.mono hK (PLe.refl _) _ _ h3, h4, fun b hb => ?_, fun ver' hlt => by rw [hv]; exact h6.1 ver' hlt, h6.2⟩
   ·obtain ⟨h7, h8⟩ := h2
    refine ⟨h7, ?_⟩
    rcases h8 with h8 | ⟨g, cap, cur, rfl, h9, h10, h11⟩
    ·exact .inl h8
    ·exact .inr ⟨g, cap, cur, rfl, h9, by rw [(hw g (by simp [jW, h1, vj])).1]; exact h10, h11⟩
   ·cases v <;> simp [Value.ownBlock] at hb
    rename_i a n c
    cases a with
    | none => simp [Value.ownBlock] at hb
    | some a => exact (hw b (by simp [jW, h1, vj]; simpa [Value.ownBlock] using hb)).2
theorem Tab.lt {K pl w bx} (h : Tab K pl w bx) {k e b} (hk : bx[k]? = some e) (hb : jW pl k e = some b) : b < w.heap.size /\ K b = none := by
 have h1 := h.ok k e hk
 cases e with
 | gone => simp [jW] at hb
 | fresh => simp [jW] at hb
 | obj o =>
   obtain ⟨b', h1, h3, h4⟩ := h1
   rw [xQ h1] at hb; cases hb
   exact ⟨(Array.getElem?_eq_some_iff.1 h4).1, h3⟩
 | mapx g ks vs =>
   obtain ⟨kvs, vvs, h1, h3, h4, _⟩ := h1
   rw [ZI h1] at hb; cases hb
   exact ⟨(Array.getElem?_eq_some_iff.1 h4).1, h3⟩
 | ito g seen cur ks vs =>
   obtain ⟨r, kvs, vvs, h1, h3, h4, _⟩ := h1
   rw [Xw h1] at hb; cases hb
   exact ⟨(Array.getElem?_eq_some_iff.1 h4).1, h3⟩
 | iter cur ks vs =>
   obtain ⟨r, h1, h3, h4⟩ := h1
   rw [vC h1] at hb; cases hb
   refine ⟨?_, h3⟩
   rcases h4 with h4 | ⟨m, es, clock, seen, kvs, vvs, h4, _⟩
   ·exact (Array.getElem?_eq_some_iff.1 h4.1).1
   ·exact (Array.getElem?_eq_some_iff.1 h4).1
 | map ks vs =>
   obtain ⟨b', es, clock, kvs, vvs, h1, h3, h4, _⟩ := h1
   rw [zP h1] at hb; cases hb
   exact ⟨(Array.getElem?_eq_some_iff.1 h4).1, h3⟩
 | cells l =>
   obtain ⟨b', T, cs, h1, h3, h4, _⟩ := h1
   rw [vd h1] at hb; cases hb
   exact ⟨(Array.getElem?_eq_some_iff.1 h4).1, h3⟩
 | tcells T l =>
   obtain ⟨b', cs, h1, h3, h4, _⟩ := h1
   rw [JM h1] at hb; cases hb
   exact ⟨(Array.getElem?_eq_some_iff.1 h4).1, h3⟩
 | arr ty sz ver rows =>
   obtain ⟨v, vs, h1, h2, _, _, h5, _⟩ := h1
   simp only [jW, h1, Option.bind_some] at hb
   have hown : v.ownBlock = some b := by
    rcases h2.2 with ⟨rfl, _⟩ | ⟨g, cap, cur, rfl, _⟩
    ·simp [vj] at hb
    ·simpa [vj, Value.ownBlock] using hb
   exact ⟨(h2.lt b hown).2, h5 b hown⟩
theorem Tab.move {K K' pl w w' bx} (h : Tab K pl w bx) (hK : KLe K K') (hw : ∀ b, b < w.heap.size -> K b = none -> (∃ k e, bx[k]? = some e /\ jW pl k e = some b) -> w'.heap[b]? = w.heap[b]? /\ K' b = none) : Tab K' pl w' bx :=
 ⟨fun k e hk => (h.ok k e hk).move hK (PLe.refl _) (fun b hb => by obtain ⟨h1, h3⟩ := h.lt hk hb; exact hw b h1 h3 ⟨k, e, hk, hb⟩) (fun _ => rfl), h.sep, h.free⟩
def qi (pl : Pl) (k ver : Nat) (v : Value) : Pl := fun k' ver' => if k' = k /\ ver' = ver then some v else pl k' ver'
theorem jY (pl : Pl) (k ver : Nat) (v : Value) : qi pl k ver v k ver = some v := by simp [qi]
theorem zX {pl : Pl} {k ver : Nat} {v : Value} (h : pl k ver = none) : PLe pl (qi pl k ver v) := fun k' ver' x hx => by
 unfold qi
 split
 ·rename_i he; rw [he.1, he.2, h] at hx; cases hx
 ·exact hx
theorem qb {pl : Pl} {k k' ver ver' : Nat} {v : Value} (h : k' ≠ k \/ ver' ≠ ver) : qi pl k ver v k' ver' = pl k' ver' := by
 unfold qi
 rw [if_neg]
 rintro ⟨h1, h2⟩
 rcases h with h | h
 ·exact h h1
 ·exact h h2
theorem qT (bx : List Ent) (e : Ent) : jX bx e = bx ++ [e] := by induction bx with | nil => rfl | cons x l ih => simp [jX, ih]
theorem kK (bx : List Ent) : jD bx = bx.length := by induction bx with | nil => rfl | cons x l ih => simp [jD, ih]
theorem kG (bx : List Ent) (k : Nat) : jI bx k = bx[k]? := by
 induction bx generalizing k with
 | nil => simp [jI]
 | cons x l ih => cases k <;> simp [jI, ih]
theorem qF (bx : List Ent) (k : Nat) (e : Ent) : jQ bx k e = bx.set k e := by
 induction bx generalizing k with
 | nil => simp [jQ]
 | cons x l ih => cases k <;> simp [jQ, ih]
theorem vl {pl : Pl} {k k' ver : Nat} {v : Value} {e : Ent} (h : k' ≠ k) : jW (qi pl k ver v) k' e = jW pl k' e := by
 cases e <;> simp [jW, qb (Or.inl h)]
theorem Tab.add {K pl w w' bx} (h : Tab K pl w bx) (v : Value) (e : Ent) (he : jW (qi pl bx.length 0 v) bx.length e = none \/ jW (qi pl bx.length 0 v) bx.length e = some w.heap.size)
  (hw : ∀ b, b < w.heap.size -> w'.heap[b]? = w.heap[b]?) (hok : EntOk K (qi pl bx.length 0 v) w' bx.length e) : Tab K (qi pl bx.length 0 v) w' (bx ++ [e]) := by
 have hne : ∀ k f, bx[k]? = some f -> k ≠ bx.length := fun k f hk => by have := (List.getElem?_eq_some_iff.1 hk).1; omega
 have hcase : ∀ k f, (bx ++ [e])[k]? = some f -> (bx[k]? = some f /\ k ≠ bx.length) \/ (k = bx.length /\ f = e) := fun k f hk => by
  rw [List.getElem?_append] at hk
  split at hk
  ·exact .inl ⟨hk, by omega⟩
  ·have : k - bx.length = 0 := by
    rcases Nat.eq_zero_or_pos (k - bx.length) with h | h
    ·exact h
    ·rw [List.getElem?_eq_none (by simp; omega)] at hk; cases hk
   rw [this] at hk; simp at hk
   exact .inr ⟨by omega, hk.symm⟩
 refine ⟨fun k f hk => ?_, fun i j f f' b hij hi hj hb hb' => ?_, fun k ver hk => ?_⟩
 ·rcases hcase k f hk with ⟨h1, h2⟩ | ⟨rfl, rfl⟩
  ·exact (h.ok k f h1).move (KLe.refl _) (zX (h.free _ _ (Nat.le_refl _))) (fun b hb => ⟨hw b (h.lt h1 hb).1, (h.lt h1 hb).2⟩) (fun ver => qb (.inl h2))
  ·exact hok
 ·rcases hcase i f hi with ⟨h1, h2⟩ | ⟨rfl, rfl⟩ <;> rcases hcase j f' hj with ⟨h3, h4⟩ | ⟨rfl, rfl⟩
  ·rw [vl h2] at hb; rw [vl h4] at hb'
   exact h.sep i j f f' b hij h1 h3 hb hb'
  ·rw [vl h2] at hb
   have := (h.lt h1 hb).1
   rcases he with he | he <;> rw [he] at hb'
   ·cases hb'
   ·cases hb'; omega
  ·rw [vl h4] at hb'
   have := (h.lt h3 hb').1
   rcases he with he | he <;> rw [he] at hb
   ·cases hb
   ·cases hb; omega
  ·exact hij rfl
 ·simp at hk
  rw [qb (.inl (by omega))]
  exact h.free k ver (by omega)
theorem Tab.upd {K pl pl' w w' bx} (h : Tab K pl w bx) {k : Nat} {e e' : Ent} (hk : bx[k]? = some e) (hp : PLe pl pl') (hpk : ∀ k' ver, k' ≠ k -> pl' k' ver = pl k' ver)
  (he : ∀ b, jW pl' k e' = some b -> jW pl k e = some b \/ w.heap.size <= b)
  (hw : ∀ b, b < w.heap.size -> jW pl k e ≠ some b -> w'.heap[b]? = w.heap[b]?) (hok : EntOk K pl' w' k e') : Tab K pl' w' (bx.set k e') := by
 have hlt := (List.getElem?_eq_some_iff.1 hk).1
 have hb' : ∀ j f, j ≠ k -> jW pl' j f = jW pl j f := fun j f hj => by cases f <;> simp [jW, hpk _ _ hj]
 have hcase : ∀ j f, (bx.set k e')[j]? = some f -> (j ≠ k /\ bx[j]? = some f) \/ (j = k /\ f = e') := fun j f hj => by
  rw [List.getElem?_set] at hj
  split at hj
  ·rename_i hkj; subst hkj; simp [hlt] at hj; exact .inr ⟨rfl, hj.symm⟩
  ·exact .inl ⟨by omega, hj⟩
 refine ⟨fun j f hj => ?_, fun i j f f' b hij hi hj hb hb2 => ?_, fun j ver hj => ?_⟩
 ·rcases hcase j f hj with ⟨h1, h2⟩ | ⟨rfl, rfl⟩
  ·exact (h.ok j f h2).move (KLe.refl _) hp (fun b hb => ⟨hw b (h.lt h2 hb).1 (fun h3 => h.sep k j e f b (Ne.symm h1) hk h2 h3 hb), (h.lt h2 hb).2⟩) (fun ver => hpk j ver h1)
  ·exact hok
 ·rcases hcase i f hi with ⟨h1, h2⟩ | ⟨rfl, rfl⟩ <;> rcases hcase j f' hj with ⟨h3, h4⟩ | ⟨rfl, rfl⟩
  ·rw [hb' _ _ h1] at hb; rw [hb' _ _ h3] at hb2
   exact h.sep i j f f' b hij h2 h4 hb hb2
  ·rw [hb' _ _ h1] at hb
   rcases he b hb2 with h5 | h5
   ·exact h.sep j i e f b (Ne.symm h1) hk h2 h5 hb
   ·have := (h.lt h2 hb).1; omega
  ·rw [hb' _ _ h3] at hb2
   rcases he b hb with h5 | h5
   ·exact h.sep i j e f' b (Ne.symm h3) hk h4 h5 hb2
   ·have := (h.lt h4 hb2).1; omega
  ·exact hij rfl
 ·simp at hj
  have := h.free j ver hj
  rw [hpk j ver (by omega)]; exact this
/-! ### Sizes, kinds -/
section
variable {P : Program}
theorem qW {t : TypeId} {n : Nat} (h : zl P t = some n) (w : World) : (sizeOf t).run P w = .ok n w := by
 unfold zl at h
 cases hi : P.info? t with
 | none => simp [hi] at h
 | some i => simp [hi] at h; simp [sizeOf, typeInfo, hi, h]
theorem jf5 {t : TypeId} {n : Nat} (h : ve P t = some (some n)) : (∃ d, P.underlying t = some d /\ d.isRow = true) /\ (P.info? t).map (·.size) = some n := by
 unfold ve at h
 split at h
 case h_1 hu hi => simp at h; exact ⟨⟨_, hu, rfl⟩, by simp [hi, h.2]⟩
 case h_2 hu hi => simp at h; exact ⟨⟨_, hu, rfl⟩, by simp [hi, h.2]⟩
 all_goals first
  | cases h; done
  | (split at h <;> cases h)
theorem jX5 {t : TypeId} {n : Nat} (h : ve P t = some (some n)) : 0 < n := by
 unfold ve at h
 split at h
 case h_1 hu hi => simp at h; omega
 case h_2 hu hi => simp at h; omega
 all_goals first
  | cases h; done
  | (split at h <;> cases h)
theorem jE5 {t : TypeId} (h : ve P t = some none) : (∃ d, P.underlying t = some d /\ d.isRow = false) /\ (P.info? t).map (·.size) = some 1 := by
 unfold ve at h
 split at h
 case h_1 => simp at h
 case h_2 => simp at h
 all_goals first
  | cases h; done
  | (rename_i hu hi
     split at h
     ·rename_i h1; exact ⟨⟨_, hu, rfl⟩, by simp [hi, h1]⟩
     ·cases h)
theorem KF {t : TypeId} {n : Option Nat} (h : ve P t = some n) : zl P t = some (n.getD 1) := by
 cases n with
 | none => exact (jE5 h).2
 | some n => exact (jf5 h).2
theorem yS {t : TypeId} {n : Option Nat} (h : ve P t = some n) (w : World) : (isAgg t).run P w = .ok n.isSome w := by
 cases n with
 | none =>
   obtain ⟨⟨d, hu, hd⟩, _⟩ := jE5 h
   unfold isAgg
   rw [Sem.run_bind, run_underlying hu w]
   cases d <;> simp_all
 | some n =>
   obtain ⟨⟨d, hu, hd⟩, _⟩ := jf5 h
   unfold isAgg
   rw [Sem.run_bind, run_underlying hu w]
   cases d <;> simp_all
theorem Ym {t : TypeId} (h : ve P t = some none) {w : World} {b o : Nat} {v : Value} (hc : w.cell? ⟨b, o, none⟩ = some v) : (Instr.loadAt t (.pointer (some ⟨b, o, none⟩))).run P w = .ok v w := by
 simp [Instr.loadAt, Instr.sureAddr, loadVar, Sem.run_bind, yS h, load, Sem.run, hc]
theorem jx0 {t : TypeId} {n : Nat} (h : ve P t = some (some n)) {w : World} {b o : Nat} {cs : List Value} (hn : cs.length = n) (hc : w.rangeAt b o cs) :
  (Instr.loadAt t (.pointer (some ⟨b, o, none⟩))).run P w = .ok (.agg cs.toArray) w := by
 obtain ⟨⟨d, hu, hd⟩, hs⟩ := jf5 h
 exact run_loadAt_mid w b o t cs d hc hu hd (by rw [hs, hn])
theorem Y4 {w : World} {b o : Nat} {cs : Array Value} {T fz} (h : w.heap[b]? = some (.cells cs T fz)) : w.cell? ⟨b, o, none⟩ = cs[o]? := by simp [World.cell?, h]
theorem vN {t : TypeId} {n : Option Nat} (h : ve P t = some n) {K : Kn} {pl : Pl} {w : World} {b o off : Nat} {l : List D} {cs : List Value} {d : D} (hl : RepL K pl l cs) (h1 : ∀ c ∈ cs, c.oneCell' = true)
  (hc : w.rangeAt b o cs) (hd : jC l off n = some d) : ∃ v, (Instr.loadAt t (.pointer (some ⟨b, o + off, none⟩))).run P w = .ok v w /\ Rep K pl d v := by
 cases n with
 | none =>
   simp only [jC, kb8] at hd
   obtain ⟨v, hv, hr⟩ := hl.get off hd
   exact ⟨v, Ym h (hc off v hv), hr⟩
 | some n =>
   simp only [jC] at hd
   split at hd
   ·rename_i r hr
    cases hd
    rw [jW0] at hr
    obtain ⟨h2, rfl⟩ := jm9 _ _ _ hr
    have h3 := (hl.drop off).take n
    have hlen := hl.length
    refine ⟨.agg ((cs.drop off).take n).toArray, jx0 h (by simp at h2 |-; omega) (fun j v hv => ?_), ?_⟩
    ·rw [List.getElem?_take] at hv
     split at hv
     ·rw [List.getElem?_drop] at hv
      have := hc (off + j) v hv
      rwa [<- Nat.add_assoc] at this
     ·cases hv
    ·simp only [Rep]
     exact ⟨_, rfl, h3, fun c hcm => h1 c (List.mem_of_mem_drop (List.mem_of_mem_take hcm))⟩
   ·cases hd
theorem jz9 {sz : Nat} : ∀ {vs : List Value} (i : Nat) {v : Value}, sized sz vs -> vs[i]? = some v -> v.cells.toList <+: (qa vs).drop (i * sz)
 | [], _, _, _, h => by simp at h
 | u :: vs, 0, v, h, hv => by
   simp at hv; subst hv
   simp [qa]
 | u :: vs, i + 1, v, h, hv => by
   simp at hv
   have h1 : u.cells.toList.length = sz := by simpa using (h u (by simp)).1
   have := jz9 i (vs := vs) (fun x hx => h x (by simp [hx])) hv
   simp only [qa, List.flatMap_cons] at this |-
   rw [List.drop_append, show (i + 1) * sz - u.cells.toList.length = i * sz by rw [h1, Nat.add_mul]; omega, List.drop_eq_nil_of_le (by rw [h1, Nat.add_mul]; omega)]
   simpa using this
theorem qJ {w : World} {b o : Nat} {cs : Array Value} {T fz} {l : List Value} (h : w.heap[b]? = some (.cells cs T fz)) (hp : l <+: cs.toList.drop o) : w.rangeAt b o l := fun j v hv => by
 rw [Y4 h]
 obtain ⟨r, hr⟩ := hp
 have : (cs.toList.drop o)[j]? = some v := by rw [<- hr, List.getElem?_append_left (List.getElem?_eq_some_iff.1 hv).1]; exact hv
 rw [List.getElem?_drop] at this
 simpa using this
theorem Yl {t : TypeId} {n : Option Nat} (h : ve P t = some n) {K : Kn} {pl pl' : Pl} {w : World} {b o i sz off : Nat} {l : List D} {vs : List Value} {d d' : D} (hl : RepL K pl l vs) (hsz : sized sz vs)
  (hc : w.rangeAt b o (qa vs)) (hd : l[i]? = some d) (hp : Xl d off n = some d') (hpl : PLe pl pl') : ∃ v, (Instr.loadAt t (.pointer (some ⟨b, o + i * sz + off, none⟩))).run P w = .ok v w /\ Rep K pl' d' v := by
 obtain ⟨v, hv, hr⟩ := hl.get i hd
 have hpre := jz9 i hsz hv
 have hc' : w.rangeAt b (o + i * sz) v.cells.toList := fun j u hu => by
  obtain ⟨r, hr⟩ := hpre
  have h2 : ((qa vs).drop (i * sz))[j]? = some u := by rw [<- hr, List.getElem?_append_left (List.getElem?_eq_some_iff.1 hu).1]; exact hu
  rw [List.getElem?_drop] at h2
  have := hc _ u h2
  rwa [<- Nat.add_assoc] at this
 have h1 := (hsz v (List.mem_of_getElem? hv)).2
 suffices ∃ v, (Instr.loadAt t (.pointer (some ⟨b, o + i * sz + off, none⟩))).run P w = .ok v w /\ Rep K pl d' v by
  obtain ⟨v, h1, h2⟩ := this
  exact ⟨v, h1, Rep.mono (KLe.refl _) hpl _ _ h2⟩
 unfold Xl at hp
 split at hp
 ·simp only [Rep] at hr
  obtain ⟨cs, rfl, h3, h4⟩ := hr
  simp only [Value.cells] at hc'
  exact vN h h3 h4 hc' hp
 ·split at hp
  ·rename_i h6 h5
   cases hp
   obtain ⟨h7, h8⟩ := hr.one h5
   rw [h7] at hc'
   exact ⟨v, Ym h (hc' 0 v (by simp)), hr⟩
  ·cases hp
end
end Go.AM
set_option linter.all false
namespace Go.AM
open Go Go.RowKit
theorem vh (w : World) (o : Obj) : (w.alloc o).heap[w.heap.size]? = some o := by
 show (w.heap.push o)[w.heap.size]? = some o
 simp
theorem js3 (w : World) (o : Obj) (i : Nat) (h : i < w.heap.size) : (w.alloc o).heap[i]? = w.heap[i]? := by
 show (w.heap.push o)[i]? = w.heap[i]?
 rw [Array.getElem?_push, if_neg (Nat.ne_of_lt h)]
section
variable {P : Program}
theorem x6 {t : TypeId} {z : List D} (h : xB P t = some z) (w : World) : ∃ v, (zeroValue t).run P w = .ok v w /\ yy z v.cells.toList = true /\ ∃ i, P.info? t = some i /\ i.zero = some v := by
 unfold xB at h
 split at h
 ·rename_i l v hl hv
  split at h
  ·rename_i hr
   cases h
   cases hi : P.info? t with
   | none => simp [hi] at hv
   | some i =>
     simp [hi] at hv
     exact ⟨v, by simp [zeroValue, typeInfo, hi, hv], hr, i, rfl, hv⟩
  ·cases h
 ·cases h
theorem kG5 {d : D} {v : Value} (h : ka8 d v = true) (K : Kn) (pl : Pl) : Rep K pl d v /\ v.oneCell' = true := by
 unfold ka8 at h
 split at h
 ·rename_i k n k' n'
  simp only [Bool.and_eq_true, beq_iff_eq] at h
  obtain ⟨h1, rfl⟩ := h
  have : k' = k := by cases k <;> cases k' <;> simp_all [kU]
  subst this; simp [Rep, Value.oneCell']
 ·simp at h; subst h; simp [Rep, Value.oneCell']
 ·rename_i s s'
  simp only [beq_iff_eq] at h
  subst h; simp [Rep, Value.oneCell']
 ·simp only [Rep]; exact ⟨⟨none, 0, 0, rfl, rfl, Nat.le_refl _, fun _ => rfl, .inl trivial⟩, rfl⟩
 ·simp [Rep, Value.oneCell']
 ·simp [Rep, Value.oneCell']
 ·simp [Rep, Value.oneCell']
 ·cases h
theorem vO (K : Kn) (pl : Pl) : ∀ {l : List D} {vs : List Value}, yy l vs = true -> RepL K pl l vs /\ ∀ c ∈ vs, c.oneCell' = true
 | [], [], _ => ⟨by simp [RepL], nofun⟩
 | d :: l, v :: r, h => by
   simp only [yy, Bool.and_eq_true] at h
   obtain ⟨h1, h2⟩ := kG5 h.1 K pl
   obtain ⟨h3, h4⟩ := vO K pl h.2
   exact ⟨by simp only [RepL]; exact ⟨v, r, rfl, h1, h3⟩, fun c hc => by rcases List.mem_cons.1 hc with rfl | hc; exact h2; exact h4 c hc⟩
 | [], _ :: _, h => by simp [yy] at h
 | _ :: _, [], h => by simp [yy] at h
/-! ### A store into an own variable -/
theorem VE {t : TypeId} {n : Option Nat} (hA : ve P t = some n) {w : World} {b o : Nat} {cs : List Value} {T : TypeId} (hb : w.heap[b]? = some (.cells cs.toArray T (0, 0))) {v : Value}
  (hs : v.cells.size = n.getD 1) (h1 : ∀ u ∈ v.cells.toList, u.oneCell' = true) (hfit : o + v.cells.size <= cs.length) :
  (Instr.storeAt t (.pointer (some ⟨b, o, none⟩)) v).run P w = .ok () (w.setRow b (AM.splice cs o v.cells.toList).toArray) := by
 have hst := run_storeCells_at P b o T v.cells.toList 0 cs.toArray w hb (by simpa using hfit) h1
 have hsz := qW (KF hA) w
 rw [xF _ _ _ (by simpa using hfit)]
 simp only [Nat.add_zero] at hst
 simp [Instr.storeAt, Instr.sureAddr, storeVar, Sem.run_bind, hsz, hs, hst]
theorem Chg.setRow (w : World) (g : Nat) (cs : Array Value) : Chg (fun b => b = g) w (w.setRow g cs) :=
 ⟨rfl, rfl, rfl, by simp, fun k _ hn => setRow_other w g k cs hn⟩
theorem Inv.upd {F K pl bx w} (h : Inv F K pl bx w) {pl' : Pl} {w' : World} {k : Nat} {e e' : Ent} (hk : bx[k]? = some e) (hp : PLe pl pl') (hpk : ∀ k' ver, k' ≠ k -> pl' k' ver = pl k' ver)
  (he : ∀ b, jW pl' k e' = some b -> jW pl k e = some b \/ w.heap.size <= b) (hc : Chg (fun b => jW pl k e = some b) w w') (hok : EntOk K pl' w' k e') : Inv F K pl' (bx.set k e') w' := by
 have hsz := h.chg.size
 refine ⟨h.chg.trans hc fun b hb hs => ?_, fun b o hb => ?_, h.le, h.new, ?_, fun j f b hj hb => ?_, by simp; exact h.len, fun j ver x hj hx => hp _ _ _ (h.keep j ver x hj hx), h.glob⟩
 ·rcases h.own k e b hk hs with h1 | h1
  ·exact h1
  ·omega
 ·have hb' := h.mod b o hb
  rw [hc.block b (Array.getElem?_eq_some_iff.1 hb').1 fun hs => by have := (h.tab.lt hk hs).2; rw [hb] at this; cases this]
  exact hb'
 ·exact h.tab.upd hk hp hpk he (fun b h1 h2 => hc.block b h1 h2) hok
 ·have hlt := (List.getElem?_eq_some_iff.1 hk).1
  rw [List.getElem?_set] at hj
  split at hj
  ·rename_i hkj; subst hkj; simp [hlt] at hj; subst hj
   rcases he b hb with h1 | h1
   ·exact h.own k e b hk h1
   ·exact .inr (by omega)
  ·rename_i hkj
   refine h.own j f b hj ?_
   rw [<- hb]; cases f <;> simp [jW, hpk j _ (Ne.symm hkj)]
theorem Inv.add {F K pl bx w} (h : Inv F K pl bx w) {w' : World} (v : Value) (e : Ent) (he : jW (qi pl bx.length 0 v) bx.length e = none \/ jW (qi pl bx.length 0 v) bx.length e = some w.heap.size)
  (hc : Chg (fun _ => False) w w') (hok : EntOk K (qi pl bx.length 0 v) w' bx.length e) : PLe pl (qi pl bx.length 0 v) /\ Inv F K (qi pl bx.length 0 v) (bx ++ [e]) w' := by
 have hsz := h.chg.size
 have hp : PLe pl (qi pl bx.length 0 v) := zX (h.tab.free _ _ (Nat.le_refl _))
 refine ⟨hp, h.chg.trans hc fun b hb hs => hs.elim, fun b o hb => ?_, h.le, h.new, ?_, fun j f b hj hb => ?_, by simp; have := h.len; omega, fun j ver x hj hx => hp _ _ _ (h.keep j ver x hj hx), h.glob⟩
 ·have hb' := h.mod b o hb
  rw [hc.block b (Array.getElem?_eq_some_iff.1 hb').1 id]; exact hb'
 ·exact h.tab.add v e he (fun b hb => hc.block b hb id) hok
 ·rw [List.getElem?_append] at hj
  split at hj
  ·rename_i hlt
   rw [vl (by omega)] at hb
   exact h.own j f b hj hb
  ·have h0 : j - bx.length = 0 := by
    rcases Nat.eq_zero_or_pos (j - bx.length) with h | h
    ·exact h
    ·rw [List.getElem?_eq_none (by simp; omega)] at hj; cases hj
   rw [h0] at hj; simp at hj; subst hj
   have hj' : j = bx.length := by omega
   subst hj'
   rcases he with he | he <;> rw [he] at hb
   ·cases hb
   ·cases hb; exact .inr hsz
theorem Chg.alloc (w : World) (o : Obj) : Chg (fun _ => False) w (w.alloc o) := ⟨rfl, rfl, rfl, by simp, fun k hk _ => js3 w o k hk⟩
theorem Inv.fresh {F K pl bx w} (h : Inv F K pl bx w) : K w.heap.size = none := by
 cases hc : K w.heap.size with
 | none => rfl
 | some o => have := h.mod _ _ hc; simp at this
theorem Inv.add1 {F K pl bx w} (h : Inv F K pl bx w) {w' : World} (v : Value) (e : Ent) (he : ∀ b, jW (qi (qi pl bx.length 0 v) bx.length 1 v) bx.length e = some b -> w.heap.size <= b)
  (hc : Chg (fun _ => False) w w') (hok : EntOk K (qi (qi pl bx.length 0 v) bx.length 1 v) w' bx.length e) : PLe pl (qi (qi pl bx.length 0 v) bx.length 1 v) /\ Inv F K (qi (qi pl bx.length 0 v) bx.length 1 v) (bx ++ [e]) w' := by
 have h1 := h.add (w' := w) v .gone (.inl rfl) (Chg.refl _ _) trivial
 have hp : PLe (qi pl bx.length 0 v) (qi (qi pl bx.length 0 v) bx.length 1 v) := zX (by rw [qb (.inr (by omega))]; exact h.tab.free _ _ (Nat.le_refl _))
 refine ⟨h1.1.trans hp, ?_⟩
 have hk : (bx ++ [Ent.gone])[bx.length]? = some .gone := by simp
 have := h1.2.upd (w' := w') (e' := e) hk hp (fun k' ver hk' => qb (.inl hk')) (fun b hb => .inr (he b hb)) ⟨hc.os, hc.tape, hc.output, hc.size, fun k hk' _ => hc.block k hk' id⟩ hok
 simpa using this
theorem Inv.store {F K pl bx w} (h : Inv F K pl bx w) {k b : Nat} {l l' : List D} {cs' : List Value} (hk : bx[k]? = some (.cells l)) (hb : pl k 0 = some (.pointer (some ⟨b, 0, none⟩)))
  (hl : RepL K pl l' cs') (h1 : ∀ c ∈ cs', c.oneCell' = true) : Inv F K pl (bx.set k (.cells l')) (w.setRow b cs'.toArray) := by
 obtain ⟨b', T, cs, h2, h4, h5, h6, h7⟩ := h.tab.ok k _ hk
 rw [hb] at h2; cases h2
 refine h.upd hk (PLe.refl _) (fun _ _ _ => rfl) (fun c hc => ?_) ⟨rfl, rfl, rfl, by simp, fun c hc hn => setRow_other _ _ _ _ (fun e => hn (by rw [vd hb, e]))⟩ ?_
 ·left; rw [vd hb] at hc |-; exact hc
 ·exact ⟨b, T, cs', hb, h4, setRow_heap w b _ _ T _ h5, hl, h1⟩
/-! ### A new variable -/
theorem Inv.newVar {F K pl bx w} (h : Inv F K pl bx w) {l : List D} {cs : List Value} (T : TypeId) (hl : RepL K pl l cs) (h1 : ∀ c ∈ cs, c.oneCell' = true) :
  let pl' := qi pl bx.length 0 (.pointer (some ⟨w.heap.size, 0, none⟩))
  PLe pl pl' /\ Inv F K pl' (bx ++ [.cells l]) (w.alloc (.cells cs.toArray T)) /\ Rep K pl' (.box bx.length 0) (.pointer (some ⟨w.heap.size, 0, none⟩)) := by
 intro pl'
 have hp : PLe pl pl' := zX (h.tab.free _ _ (Nat.le_refl _))
 have := h.add (w' := w.alloc (.cells cs.toArray T)) (.pointer (some ⟨w.heap.size, 0, none⟩)) (.cells l) (.inr (vd (jY _ _ _ _))) (Chg.alloc w _)
  ⟨w.heap.size, T, cs, jY _ _ _ _, h.fresh, vh w _, RepL.mono (KLe.refl _) hp _ _ hl, h1⟩
 exact ⟨hp, this.2, by simp only [Rep]; exact ⟨_, jY _ _ _ _, rfl⟩⟩
/-! ### A new row that nobody writes -/
def xk (K : Kn) (b : Nat) (o : Obj) : Kn := fun c => if c = b then some o else K c
theorem jm5 {K : Kn} {b : Nat} {o : Obj} (h : K b = none) : KLe K (xk K b o) := fun c x hx => by
 unfold xk
 split
 ·rename_i e; rw [e, h] at hx; cases hx
 ·exact hx
theorem Inv.newRow {F K pl bx w} (h : Inv F K pl bx w) (o : Obj) :
  KLe K (xk K w.heap.size o) /\ Inv F (xk K w.heap.size o) pl bx (w.alloc o) := by
 have hKn := h.fresh
 have hsz := h.chg.size
 have hle := jm5 (o := o) hKn
 refine ⟨hle, h.chg.trans (Chg.alloc w o) fun b hb hs => hs.elim, fun c o' hc => ?_, h.le.trans hle, fun c o' hc => ?_, ?_, h.own, h.len, h.keep, h.glob.mono hle⟩
 ·unfold xk at hc
  split at hc
  ·rename_i e; cases hc; rw [e]; exact vh w _
  ·rw [js3 w _ c (by have := h.mod c o' hc; exact (Array.getElem?_eq_some_iff.1 this).1)]; exact h.mod c o' hc
 ·unfold xk at hc
  split at hc
  ·rename_i e; right; right; rw [e]; exact hsz
  ·exact h.new c o' hc
 ·exact h.tab.move hle fun b h2 h3 _ => ⟨js3 w _ b h2, by unfold xk; rw [if_neg (by omega)]; exact h3⟩
theorem Inv.leave {F K pl bx w} (h : Inv F K pl bx w) {k : Nat} {e : Ent} (hk : bx[k]? = some e) {K' : Kn} (hle : KLe K K') (hmod : ∀ b o, K' b = some o -> w.heap[b]? = some o) (hnew : ∀ b o, K' b = some o -> K b = some o \/ jW pl k e = some b) : Inv F K' pl (bx.set k .gone) w := by
 have hlt := (List.getElem?_eq_some_iff.1 hk).1
 have hcase : ∀ j f, (bx.set k .gone)[j]? = some f -> (j ≠ k /\ bx[j]? = some f) \/ (j = k /\ f = .gone) := fun j f hj => by
  rw [List.getElem?_set] at hj
  split at hj
  ·rename_i hkj; subst hkj; simp [hlt] at hj; exact .inr ⟨rfl, hj.symm⟩
  ·exact .inl ⟨by omega, hj⟩
 refine ⟨h.chg, hmod, h.le.trans hle, fun b o hb => ?_, ⟨fun j f hj => ?_, fun i j f f' b hij hi hj hb hb2 => ?_, fun j ver hj => h.tab.free j ver (by simpa using hj)⟩, fun j f b hj hb => ?_, by simp; exact h.len, h.keep, h.glob.mono hle⟩
 ·rcases hnew b o hb with h7 | h7
  ·exact h.new b o h7
  ·exact .inr (h.own k _ b hk h7)
 ·rcases hcase j f hj with ⟨h7, h8⟩ | ⟨rfl, rfl⟩
  ·refine (h.tab.ok j f h8).move hle (PLe.refl _) (fun b hb => ⟨rfl, ?_⟩) (fun _ => rfl)
   cases hK : K' b with
   | none => rfl
   | some o =>
     rcases hnew b o hK with h9 | h9
     ·have := (h.tab.lt h8 hb).2; rw [h9] at this; cases this
     ·exact absurd hb (h.tab.sep k j _ f b (Ne.symm h7) hk h8 h9)
  ·trivial
 ·rcases hcase i f hi with ⟨h7, h8⟩ | ⟨rfl, rfl⟩ <;> rcases hcase j f' hj with ⟨h9, h10⟩ | ⟨rfl, rfl⟩
  ·exact h.tab.sep i j f f' b hij h8 h10 hb hb2
  ·simp [jW] at hb2
  ·simp [jW] at hb
  ·exact hij rfl
 ·rcases hcase j f hj with ⟨h7, h8⟩ | ⟨rfl, rfl⟩
  ·exact h.own j f b h8 hb
  ·simp [jW] at hb
mutual
theorem Qg {K : Kn} {pl : Pl} : ∀ (d : D) (v : Value), closed d = true -> Rep K pl d v -> Rep K vK d v
 | .int _ _, _, _, h => by simpa [Rep] using h
 | .bool _, _, _, h => by simpa [Rep] using h
 | .str _, _, _, h => by simpa [Rep] using h
 | .ls _ _, _, _, h => by simpa [Rep] using h
 | .agg l, v, hc, h => by
   simp only [Rep] at h |-
   obtain ⟨cs, h1, h2, h3⟩ := h
   exact ⟨cs, h1, zj l cs (by simpa [closed] using hc) h2, h3⟩
 | .tup l, v, hc, h => by
   simp only [Rep] at h |-
   obtain ⟨cs, h1, h2⟩ := h
   exact ⟨cs, h1, zj l cs (by simpa [closed] using hc) h2⟩
 | .mp _ _, _, _, h => by simpa [Rep] using h
 | .nil, _, _, h => by simpa only [Rep] using h
 | .glob _ _, _, _, h => by simpa [Rep] using h
 | .ifc b, _, _, h => by cases b <;> simpa only [Rep] using h
 | .fn f l, v, hc, h => by
   simp only [Rep] at h |-
   obtain ⟨cs, h1, h2⟩ := h
   exact ⟨cs, h1, zj l cs (by simpa [closed] using hc) h2⟩
 | .yld _, _, hc, _ => by simp [closed] at hc
 | .osl _ _ _ _ _, _, hc, _ => by simp [closed] at hc
 | .box _ _, _, hc, _ => by simp [closed] at hc
 | .boxi _ _, _, hc, _ => by simp [closed] at hc
 | .bsl _ _ _ _, _, hc, _ => by simp [closed] at hc
 | .ownm _ _, _, hc, _ => by simp [closed] at hc
 | .own _ _, _, hc, _ => by simp [closed] at hc
 | .el _ _ _ _, _, hc, _ => by simp [closed] at hc
 | .elo _ _ _ _ _, _, hc, _ => by simp [closed] at hc
 | .any, _, hc, _ => by simp [closed] at hc
theorem zj {K : Kn} {pl : Pl} : ∀ (l : List D) (vs : List Value), jV l = true -> RepL K pl l vs -> RepL K vK l vs
 | [], _, _, h => by simpa [RepL] using h
 | d :: l, vs, hc, h => by
   simp only [RepL] at h |-
   obtain ⟨v, r, h1, h2, h3⟩ := h
   rw [jV, qw] at hc
   exact ⟨v, r, h1, Qg d v hc.1 h2, zj l r hc.2 h3⟩
end
theorem Inv.give {F K pl bx w} (h : Inv F K pl bx w) {k : Nat} {e : TypeId} {sz ver : Nat} {rows : List D} (hk : bx[k]? = some (.arr e sz ver rows)) :
  ∃ K', KLe K K' /\ Inv F K' pl (bx.set k .gone) w /\ ∀ v, pl k ver = some v -> Rep K' vK (.ls sz rows) v := by
 obtain ⟨v, vs, h1, h2, h3, h4, h5, h6⟩ := h.tab.ok k _ hk
 have hgone : ∀ K', KLe K K' -> (∀ b o, K' b = some o -> w.heap[b]? = some o) -> (∀ b o, K' b = some o -> K b = some o \/ jW pl k (.arr e sz ver rows) = some b) -> Inv F K' pl (bx.set k .gone) w := fun K' a b c => h.leave hk a b c
 rcases h2.2 with ⟨rfl, h7⟩ | ⟨g, cap, cur, rfl, _, h9, h10, h11, h12, h13⟩
 ·refine ⟨K, KLe.refl _, hgone K (KLe.refl _) h.mod fun b o hb => .inl hb, fun v hv => ?_⟩
  rw [h1] at hv; cases hv
  simp only [Rep]
  exact ⟨none, 0, 0, rfl, h7.symm, Nat.le_refl _, fun _ => rfl, .inl (List.eq_nil_of_length_eq_zero h7)⟩
 ·have hgn : K g = none := h5 g rfl
  have hle := jm5 (o := .cells cur e (0, 0)) hgn
  refine ⟨xk K g (.cells cur e (0, 0)), hle, hgone _ hle (fun b o hb => ?_) (fun b o hb => ?_), fun v hv => ?_⟩
  ·unfold xk at hb
   split at hb
   ·rename_i e1; cases hb; rw [e1]; exact h9
   ·exact h.mod b o hb
  ·unfold xk at hb
   split at hb
   ·rename_i e1; right; rw [e1]; simp [jW, h1, vj]
   ·exact .inl hb
  ·rw [h1] at hv; cases hv
   simp only [Rep]
   refine ⟨_, _, _, rfl, rfl, h10, nofun, .inr ⟨g, 0, vs, rfl, RepL.mono hle (PLe.refl _) _ _ h3, cur, e, (0, 0), by simp [xk], h4, ?_⟩⟩
   rw [List.drop_zero, <- h13]
   exact List.take_prefix _ _
theorem Inv.giveM {F K pl bx w} (h : Inv F K pl bx w) {k : Nat} {ks vs : List D} (hk : bx[k]? = some (.map ks vs)) (hcl : jV vs = true) :
  ∃ K', KLe K K' /\ Inv F K' pl (bx.set k .gone) w /\ ∀ v, pl k 0 = some v -> Rep K' vK (.mp ks vs) v := by
 obtain ⟨b, es, clock, kvs, vvs, h1, h3, h4, h5, h6, h7, h8⟩ := h.tab.ok k _ hk
 have hle := jm5 (o := .map es clock) h3
 refine ⟨xk K b (.map es clock), hle, h.leave hk hle (fun c o hb => ?_) (fun c o hb => ?_), fun v hv => ?_⟩
 ·unfold xk at hb
  split at hb
  ·rename_i e1; cases hb; rw [e1]; exact h4
  ·exact h.mod c o hb
 ·unfold xk at hb
  split at hb
  ·rename_i e1; right; rw [e1]; exact zP h1
  ·exact .inl hb
 ·rw [h1] at hv; cases hv
  simp only [Rep]
  exact .inr ⟨b, kvs, vvs, rfl, RepL.mono hle (PLe.refl _) _ _ h5, RepL.mono hle (PLe.refl _) _ _ (zj _ _ hcl h6), h7, es, clock, by simp [xk], h8⟩
/-! ### 'fill' -/
theorem jh5 : ∀ (vs : List Value) (o j : Nat) (cs : Array Value), o + j + vs.length <= cs.size ->
  ((vs.zipIdx j).foldl (fun cs (p : Value × Nat) => cs.setIfInBounds (o + p.2) p.1) cs).toList = AM.splice cs.toList (o + j) vs
 | [], o, j, cs, _ => by simp [AM.splice]
 | v :: vs, o, j, cs, h => by
   simp only [List.zipIdx_cons, List.foldl_cons, AM.splice]
   rw [jh5 vs o (j + 1) _ (by simp at h |-; omega)]
   simp [Nat.add_assoc]
theorem jD7 {place : Nat -> Option (Nat × Nat)} {cells : Array Value} {i off size : Nat} {v : Value} {rest : List (Nat × Value)} (hp : place i = some (off, size)) (hs : v.cells.size = size) (hf : off + size <= cells.size) :
  ∃ cells', Instr.fill place cells ((i, v) :: rest) = Instr.fill place cells' rest /\ cells'.toList = AM.splice cells.toList off v.cells.toList := by
 have h := jh5 v.cells.toList off 0 cells (by simp; omega)
 simp only [Nat.add_zero] at h
 simp only [Instr.fill, hp]
 rw [if_neg (by simp; omega)]
 rw [<- Array.foldl_toList]
 refine ⟨_, rfl, ?_⟩
 simpa using h
theorem jD8 {sz : Nat} (e : Nat) : ∀ (vs : List Value) (i : Nat) (cells : Array Value) (done : List Value), sized sz vs -> done.length = i * sz -> cells.toList.take (i * sz) = done -> cells.size = (i + vs.length) * sz ->
  ∃ r, Instr.fill (fun i => some (i * sz, sz)) cells ((vs.zipIdx i).map fun p => (p.2, p.1)) = some r /\ r.toList = done ++ qa vs
 | [], i, cells, done, _, hd, ht, hc => by
   refine ⟨cells, rfl, ?_⟩
   simp only [qa, List.flatMap_nil, List.append_nil]
   rw [<- ht, List.take_of_length_le]
   simp; simp at hc; omega
 | v :: vs, i, cells, done, hs, hd, ht, hc => by
   have hv := (hs v (by simp)).1
   have hfit : i * sz + sz <= cells.size := by
    rw [hc]; simp only [List.length_cons]
    have : (i + (vs.length + 1)) * sz = i * sz + sz + vs.length * sz := by rw [Nat.add_mul, Nat.add_mul]; omega
    omega
   obtain ⟨cells', h1, h2⟩ := jD7 (place := fun i => some (i * sz, sz)) (cells := cells) (i := i) (v := v) (rest := (vs.zipIdx (i + 1)).map fun p => (p.2, p.1)) rfl hv hfit
   rw [xF _ _ _ (by simp; omega)] at h2
   have hlen : cells'.size = cells.size := by
    have := congrArg List.length h2
    simp at this; omega
   have htake : cells'.toList.take ((i + 1) * sz) = done ++ v.cells.toList := by
    rw [h2, ht, Nat.add_mul, Nat.one_mul]
    have e1 : i * sz + sz = (done ++ v.cells.toList).length := by simp [hd]; omega
    rw [e1]
    exact List.take_left
   obtain ⟨r, h3, h4⟩ := jD8 e vs (i + 1) cells' (done ++ v.cells.toList) (fun x hx => hs x (by simp [hx])) (by simp [hd, Nat.add_mul]; omega) htake (by rw [hlen, hc]; simp only [List.length_cons]; congr 1; omega)
   refine ⟨r, ?_, by rw [h4]; simp [qa]⟩
   rw [List.zipIdx_cons, List.map_cons, h1]
   exact h3
end
end Go.AM
set_option linter.all false
namespace Go.AM
open Go Go.RowKit
def jy4 (P : Program) (o : Oper) (ρ : Operand -> Value) (w : World) (v : Value) (w' : World) : Prop :=
 (execOp ρ o).run P w = .ok (.value v) w' \/ ((execOp ρ o).run P w = .ok .skip w' /\ v = undef)
def Out (P : Program) (o : Oper) (a : Act) (w : World) (v : Value) (w' : World) : Prop :=
 (execOp a.eval o).run P w = .ok (.value v) w' \/ ((execOp a.eval o).run P w = .ok .skip w' /\ v = undef)
def jI9 (P : Program) (f : Nat) : Prop := ∃ fn, P.funcs[f]? = some fn /\ (fn.name == "runtime.NumGoroutine") = false /\ fn.body.isSome = true
def ResOk (P : Program) (gt : Nat -> Option (List D)) (o : Oper) (m : M) (g : G) (env : x4) (bx : List Ent) : Res -> Prop
 | .bad => True
 | .ok p d bx' => ∀ F K pl w a, F.gt = gt -> Inv F K pl bx w -> (∀ s ∈ Jq m, SlotOk K pl env a s) -> qo a g -> (∀ q ∈ p, q) ->
    ∃ v w' K' pl', Out P o a w v w' /\ KLe K K' /\ PLe pl pl' /\ Inv F K' pl' bx' w' /\ Rep K' pl' d v
 | .call p eff f ds => ∀ F K pl w a, F.gt = gt -> Inv F K pl bx w -> (∀ s ∈ Jq m, SlotOk K pl env a s) -> qo a g -> (∀ q ∈ p, q) -> jI9 P f ->
    ∃ vs, (execOp a.eval o).run P w = .ok (.enter f vs) w /\ RepL K pl ds vs.toList
 | .callK p l f ds => ∀ F K pl w a, F.gt = gt -> Inv F K pl bx w -> (∀ s ∈ Jq m, SlotOk K pl env a s) -> qo a g -> (∀ q ∈ p, q) -> jI9 P f ->
    ∃ vs, (execOp a.eval o).run P w = .ok (.enter f vs) w /\ RepL K pl ds vs.toList
 | .callC p f ds => ∀ F K pl w a, F.gt = gt -> Inv F K pl bx w -> (∀ s ∈ Jq m, SlotOk K pl env a s) -> qo a g -> (∀ q ∈ p, q) -> jI9 P f ->
    ∃ vs, (execOp a.eval o).run P w = .ok (.enter f vs) w /\ RepL K pl ds vs.toList
 | .callN p n f ds => ∀ F K pl w a, F.gt = gt -> Inv F K pl bx w -> (∀ s ∈ Jq m, SlotOk K pl env a s) -> qo a g -> (∀ q ∈ p, q) -> jI9 P f ->
    ∃ vs, (execOp a.eval o).run P w = .ok (.enter f vs) w /\ RepL K pl ds vs.toList
 | .callR p l f ds => ∀ F K pl w a, F.gt = gt -> Inv F K pl bx w -> (∀ s ∈ Jq m, SlotOk K pl env a s) -> qo a g -> (∀ q ∈ p, q) -> jI9 P f ->
    ∃ vs, (execOp a.eval o).run P w = .ok (.enter f vs) w /\ RepL K pl ds vs.toList
 | .row p l i off n => ∀ F K pl w a, F.gt = gt -> Inv F K pl bx w -> (∀ s ∈ Jq m, SlotOk K pl env a s) -> qo a g -> (∀ q ∈ p, q) -> ∀ d d', l[i]? = some d -> Xl d off n = some d' ->
    ∃ v, (execOp a.eval o).run P w = .ok (.value v) w /\ Rep K pl d' v
 | .arr p l i n => ∀ F K pl w a, F.gt = gt -> Inv F K pl bx w -> (∀ s ∈ Jq m, SlotOk K pl env a s) -> qo a g -> (∀ q ∈ p, q) -> ∀ d, jC l i n = some d ->
    ∃ v, (execOp a.eval o).run P w = .ok (.value v) w /\ Rep K pl d v
 | .ask p Q => ∀ F K pl w a, F.gt = gt -> Inv F K pl bx w -> (∀ s ∈ Jq m, SlotOk K pl env a s) -> qo a g -> (∀ q ∈ p, q) -> ∀ d, Q d ->
    ∃ v, (execOp a.eval o).run P w = .ok (.value v) w /\ Rep K pl d v
 | .prm p _ q ds => ∀ F K pl w a, F.gt = gt -> Inv F K pl bx w -> (∀ s ∈ Jq m, SlotOk K pl env a s) -> qo a g -> (∀ x ∈ p, x) -> ∃ xs, q.op xs = some o.op /\ RepL K pl ds (xs.map a.eval)
 | .all p q ds => ∀ F K pl w a, F.gt = gt -> Inv F K pl bx w -> (∀ s ∈ Jq m, SlotOk K pl env a s) -> qo a g -> (∀ x ∈ p, x) -> ∃ xs, q.op xs = some o.op /\ RepL K pl ds (xs.map a.eval)
 | .put p Q d mk => ∀ F K pl w a, F.gt = gt -> Inv F K pl bx w -> (∀ s ∈ Jq m, SlotOk K pl env a s) -> qo a g -> (∀ q ∈ p, q) -> ∀ l', Q l' ->
    ∃ v w' K' pl', Out P o a w v w' /\ KLe K K' /\ PLe pl pl' /\ Inv F K' pl' (mk l') w' /\ Rep K' pl' d v
section
variable {P : Program} {gt : Nat -> Option (List D)} {o : Oper} {m : M} {g : G} {env : x4} {bx : List Ent}
theorem ResOk.pure {p : List Prop} {d : D} (h : ∀ F K pl w a, F.gt = gt -> Inv F K pl bx w -> (∀ s ∈ Jq m, SlotOk K pl env a s) -> qo a g -> (∀ q ∈ p, q) ->
  ∃ v, (execOp a.eval o).run P w = .ok (.value v) w /\ Rep K pl d v) : ResOk P gt o m g env bx (.ok p d bx) := by
 intro F K pl w a hF hi hs hg hp
 obtain ⟨v, h1, h2⟩ := h F K pl w a hF hi hs hg hp
 exact ⟨v, w, K, pl, .inl h1, KLe.refl _, PLe.refl _, hi, h2⟩
theorem Z6 {a b : IntKind} : kU a b = true ↔ a = b := by cases a <;> cases b <;> simp [kU]
theorem zW {k : IntKind} {n : Int} (h : j5 k n) : k.wrap n = n := by
 cases k <;> simp only [j5] at h <;> simp [IntKind.wrap, IntKind.min, IntKind.max, IntKind.bits, IntKind.signed] <;> omega
theorem kK4 {k : IntKind} {x : Int} (h0 : 0 <= x) (h : j5 k x) : x.toNat < 2 ^ k.bits := by
 cases k <;> simp only [j5] at h <;> simp [IntKind.bits] <;> omega
theorem zL {k : IntKind} {x : Int} (h0 : 0 <= x) (h : j5 k x) : (BitVec.ofInt k.bits x).toNat = x.toNat := by
 rw [BitVec.toNat_ofInt]
 have h1 := kK4 h0 h
 have h2 : x % ((2 ^ k.bits : Nat) : Int) = x := Int.emod_eq_of_lt h0 (by omega)
 rw [h2]
theorem jV2 {k : IntKind} {x : Int} {n : Nat} (h0 : 0 <= x) (h : j5 k x) (hn : n <= x.toNat) : j5 k (Int.ofNat n) := by
 cases k <;> simp only [j5] at h |- <;> simp <;> omega
theorem kC4 {k : IntKind} {x y : Int} (h1 : 0 <= x) (h2 : 0 <= y) (h3 : j5 k x) (h4 : j5 k y) : k.wrap (((BitVec.ofInt k.bits x) &&& (BitVec.ofInt k.bits y)).toNat : Int) = Int.ofNat (x.toNat &&& y.toNat) := by
 rw [BitVec.toNat_and, zL h1 h3, zL h2 h4]
 exact zW (jV2 h1 h3 Nat.and_le_left)
theorem jW9 {k : IntKind} {x y : Int} (h1 : 0 <= x) (h2 : 0 <= y) (h3 : j5 k x) (h4 : j5 k y) : k.wrap (((BitVec.ofInt k.bits x) &&& ~~~(BitVec.ofInt k.bits y)).toNat : Int) = Int.ofNat ((x.toNat ^^^ y.toNat) &&& x.toNat) := by
 have e : (BitVec.ofInt k.bits x) &&& ~~~(BitVec.ofInt k.bits y) = ((BitVec.ofInt k.bits x) ^^^ (BitVec.ofInt k.bits y)) &&& (BitVec.ofInt k.bits x) := by
  generalize BitVec.ofInt k.bits x = a
  generalize BitVec.ofInt k.bits y = b
  ext i hi
  simp only [BitVec.getElem_and, BitVec.getElem_not, BitVec.getElem_xor]
  cases a[i] <;> cases b[i] <;> rfl
 rw [e, BitVec.toNat_and, BitVec.toNat_xor, zL h1 h3, zL h2 h4]
 exact zW (jV2 h1 h3 Nat.and_le_right)
theorem kK2 {k : IntKind} {x y : Int} (h1 : 0 <= x) (h2 : 0 <= y) (h3 : j5 k x) (h4 : j5 k y) : j5 k (Int.ofNat (x.toNat ||| y.toNat)) := by
 have key : ∀ b : Nat, x.toNat < 2 ^ b -> y.toNat < 2 ^ b -> x.toNat ||| y.toNat < 2 ^ b := fun b ha hb => Nat.or_lt_two_pow ha hb
 cases k <;> simp only [j5] at h3 h4 |-
 ·have := key 7 (by omega) (by omega); simp; omega
 ·have := key 15 (by omega) (by omega); simp; omega
 ·have := key 31 (by omega) (by omega); simp; omega
 ·have := key 63 (by omega) (by omega); simp; omega
 ·have := key 8 (by omega) (by omega); simp; omega
 ·have := key 16 (by omega) (by omega); simp; omega
 ·have := key 32 (by omega) (by omega); simp; omega
 ·have := key 64 (by omega) (by omega); simp; omega
theorem kL1 {k : IntKind} {x y : Int} (h1 : 0 <= x) (h2 : 0 <= y) (h3 : j5 k x) (h4 : j5 k y) : k.wrap (((BitVec.ofInt k.bits x) ||| (BitVec.ofInt k.bits y)).toNat : Int) = Int.ofNat (x.toNat ||| y.toNat) := by
 rw [BitVec.toNat_or, zL h1 h3, zL h2 h4]
 exact zW (kK2 h1 h2 h3 h4)
theorem kz9 {k : IntKind} {x y : Int} (h1 : 0 <= x) (h2 : 0 <= y) (h3 : j5 k x) (h4 : j5 k y) : j5 k (Int.ofNat (x.toNat ^^^ y.toNat)) := by
 have key : ∀ b : Nat, x.toNat < 2 ^ b -> y.toNat < 2 ^ b -> x.toNat ^^^ y.toNat < 2 ^ b := fun b ha hb => Nat.xor_lt_two_pow ha hb
 cases k <;> simp only [j5] at h3 h4 |-
 ·have := key 7 (by omega) (by omega); simp; omega
 ·have := key 15 (by omega) (by omega); simp; omega
 ·have := key 31 (by omega) (by omega); simp; omega
 ·have := key 63 (by omega) (by omega); simp; omega
 ·have := key 8 (by omega) (by omega); simp; omega
 ·have := key 16 (by omega) (by omega); simp; omega
 ·have := key 32 (by omega) (by omega); simp; omega
 ·have := key 64 (by omega) (by omega); simp; omega
theorem kC3 {k : IntKind} {x y : Int} (h1 : 0 <= x) (h2 : 0 <= y) (h3 : j5 k x) (h4 : j5 k y) : k.wrap (((BitVec.ofInt k.bits x) ^^^ (BitVec.ofInt k.bits y)).toNat : Int) = Int.ofNat (x.toNat ^^^ y.toNat) := by
 rw [BitVec.toNat_xor, zL h1 h3, zL h2 h4]
 exact zW (kz9 h1 h2 h3 h4)
theorem kL2 {op : BinOp} {k k2 : IntKind} {x y : Int} {p : List Prop} {d : D} {bx' : List Ent} (hop : k2 = k \/ jR op = true) (h : ko op k x y bx = .ok p d bx') (hp : ∀ q ∈ p, q) (K : Kn) (pl : Pl) (t : TypeId) (w : World) :
  bx' = bx /\ ∃ v, (binOp op t (.int k x) (.int k2 y)).run P w = .ok v w /\ Rep K pl d v := by
 cases op <;> simp only [ko, Res.ok.injEq, reduceCtorEq] at h
 all_goals
  obtain ⟨rfl, rfl, rfl⟩ := h
  refine ⟨rfl, ?_⟩
 all_goals try (have hk : k2 = k := by simpa [jR] using hop); try subst hk
 case add =>
  have h1 : j5 k2 (x + y) := hp _ (List.mem_singleton.2 rfl)
  refine ⟨.int k2 (x + y), ?_, by simp [Rep]⟩
  simp [binOp, Op.intArith, zW h1]
 case sub =>
  have h1 : j5 k2 (x - y) := hp _ (List.mem_singleton.2 rfl)
  refine ⟨.int k2 (x - y), ?_, by simp [Rep]⟩
  simp [binOp, Op.intArith, zW h1]
 case mul =>
  have h1 : j5 k2 (x * y) := hp _ (List.mem_singleton.2 rfl)
  refine ⟨.int k2 (x * y), ?_, by simp [Rep]⟩
  simp [binOp, Op.intArith, zW h1]
 case quo =>
  obtain ⟨h1, h2, h3⟩ := hp _ (List.mem_singleton.2 rfl)
  refine ⟨.int k2 (x / y), ?_, by simp [Rep]⟩
  have h4 : ¬ y = 0 := by omega
  simp [binOp, Op.intDiv, h4, Int.tdiv_eq_ediv_of_nonneg h1, zW h3]
 case rem =>
  obtain ⟨h2, h3⟩ := kG6 (hp _ (List.mem_singleton.2 rfl))
  refine ⟨.int k2 (jb7 k2 x y), ?_, by simp [Rep]⟩
  have h4 : ¬ y = 0 := by omega
  simp [binOp, Op.intDiv, h4, h3]
 case shr =>
  obtain ⟨h1, h2⟩ := hp _ (List.mem_singleton.2 rfl)
  refine ⟨.int k (x / 2 ^ y.toNat), ?_, by simp [Rep]⟩
  have h4 : ¬ y < 0 := by omega
  have h5 : min y.toNat k.bits = y.toNat := by omega
  have h6 : x.fdiv (2 ^ y.toNat) = x / 2 ^ y.toNat := Int.fdiv_eq_ediv_of_nonneg x (Int.le_of_lt (Int.pow_pos (by omega)))
  simp [binOp, Op.shift, h4, h5, h6]
 case shl =>
  obtain ⟨h1, h2, h3⟩ := hp _ (List.mem_singleton.2 rfl)
  refine ⟨.int k (x * 2 ^ y.toNat), ?_, by simp [Rep]⟩
  have h4 : ¬ y < 0 := by omega
  have h5 : min y.toNat k.bits = y.toNat := by omega
  simp [binOp, Op.shift, h4, h5, zW h3]
 case and =>
  obtain ⟨h1, h2, h3, h4⟩ := hp _ (List.mem_singleton.2 rfl)
  refine ⟨.int k2 (Int.ofNat (x.toNat &&& y.toNat)), ?_, by simp [Rep]⟩
  have hb := kC4 h1 h2 h3 h4
  simpa [binOp, Op.intBits] using hb
 case or =>
  obtain ⟨h1, h2, h3, h4⟩ := hp _ (List.mem_singleton.2 rfl)
  refine ⟨.int k2 (Int.ofNat (x.toNat ||| y.toNat)), ?_, by simp [Rep]⟩
  have hb := kL1 h1 h2 h3 h4
  simpa [binOp, Op.intBits] using hb
 case xor =>
  obtain ⟨h1, h2, h3, h4⟩ := hp _ (List.mem_singleton.2 rfl)
  refine ⟨.int k2 (Int.ofNat (x.toNat ^^^ y.toNat)), ?_, by simp [Rep]⟩
  have hb := kC3 h1 h2 h3 h4
  simpa [binOp, Op.intBits] using hb
 case andNot =>
  obtain ⟨h1, h2, h3, h4⟩ := hp _ (List.mem_singleton.2 rfl)
  refine ⟨.int k2 (Int.ofNat ((x.toNat ^^^ y.toNat) &&& x.toNat)), ?_, by simp [Rep]⟩
  have hb := jW9 h1 h2 h3 h4
  simpa [binOp, Op.intBits] using hb
 case eql => exact ⟨.bool (decide (x = y)), by simp [binOp, Op.intCmp]; rfl, by simp [Rep]⟩
 case neq => exact ⟨.bool (!decide (x = y)), by simp [binOp, Op.intCmp, bne]; rfl, by simp [Rep]⟩
 case lss => exact ⟨.bool (decide (x < y)), by simp [binOp, Op.intCmp], by simp [Rep]⟩
 case leq => exact ⟨.bool (decide (x <= y)), by simp [binOp, Op.intCmp], by simp [Rep]⟩
 case gtr => exact ⟨.bool (decide (y < x)), by simp [binOp, Op.intCmp], by simp [Rep]⟩
 case geq => exact ⟨.bool (decide (y <= x)), by simp [binOp, Op.intCmp], by simp [Rep]⟩
end
end Go.AM
set_option linter.all false
namespace Go.AM
open Go Go.RowKit
section
variable {P : Program} {gt : Nat -> Option (List D)} {g : G} {env : x4} {bx : List Ent} {dst : Option Tmp} {ty : TypeId} {pos : String} {after : Array Edge} {guard : Option (Nat × Bool)}
theorem JA {x y : X} {s : Nat} (h : s ∈ jv3 x) : s ∈ jv3 x ++ jv3 y := List.mem_append_left _ h
theorem Jz {x y : X} {s : Nat} (h : s ∈ jv3 y) : s ∈ jv3 x ++ jv3 y := List.mem_append_right _ h
theorem kD2 {p q : List Prop} (h : ∀ x ∈ p ++ q, x) : (∀ x ∈ p, x) /\ ∀ x ∈ q, x := ⟨fun x hx => h x (List.mem_append_left _ hx), fun x hx => h x (List.mem_append_right _ hx)⟩
mutual
theorem kd4 {F : Fr} {pl : Pl} {w : World} : ∀ (d : D) {K : Kn} {bx : List Ent} {q : List Prop} {d' : D} {bx' : List Ent} {v : Value}, frz bx d = some (q, d', bx') -> (∀ p ∈ q, p) -> Inv F K pl bx w -> Rep K pl d v ->
  ∃ K', KLe K K' /\ Inv F K' pl bx' w /\ Rep K' vK d' v
 | .int _ _, K, _, _, _, _, _, h, _, hi, hr => by simp only [frz, Option.some.injEq, Prod.mk.injEq] at h; obtain ⟨rfl, rfl, rfl⟩ := h; exact ⟨K, KLe.refl _, hi, by simpa [Rep] using hr⟩
 | .bool _, K, _, _, _, _, _, h, _, hi, hr => by simp only [frz, Option.some.injEq, Prod.mk.injEq] at h; obtain ⟨rfl, rfl, rfl⟩ := h; exact ⟨K, KLe.refl _, hi, by simpa [Rep] using hr⟩
 | .str _, K, _, _, _, _, _, h, _, hi, hr => by simp only [frz, Option.some.injEq, Prod.mk.injEq] at h; obtain ⟨rfl, rfl, rfl⟩ := h; exact ⟨K, KLe.refl _, hi, by simpa [Rep] using hr⟩
 | .ls _ _, K, _, _, _, _, _, h, _, hi, hr => by simp only [frz, Option.some.injEq, Prod.mk.injEq] at h; obtain ⟨rfl, rfl, rfl⟩ := h; exact ⟨K, KLe.refl _, hi, by simpa [Rep] using hr⟩
 | .mp _ _, K, _, _, _, _, _, h, _, hi, hr => by simp only [frz, Option.some.injEq, Prod.mk.injEq] at h; obtain ⟨rfl, rfl, rfl⟩ := h; exact ⟨K, KLe.refl _, hi, by simpa [Rep] using hr⟩
 | .nil, K, _, _, _, _, _, h, _, hi, hr => by simp only [frz, Option.some.injEq, Prod.mk.injEq] at h; obtain ⟨rfl, rfl, rfl⟩ := h; exact ⟨K, KLe.refl _, hi, by simpa [Rep] using hr⟩
 | .glob _ _, K, _, _, _, _, _, h, _, hi, hr => by simp only [frz, Option.some.injEq, Prod.mk.injEq] at h; obtain ⟨rfl, rfl, rfl⟩ := h; exact ⟨K, KLe.refl _, hi, by simpa [Rep] using hr⟩
 | .ifc b, K, _, _, _, _, _, h, _, hi, hr => by simp only [frz, Option.some.injEq, Prod.mk.injEq] at h; obtain ⟨rfl, rfl, rfl⟩ := h; exact ⟨K, KLe.refl _, hi, by cases b <;> simpa only [Rep] using hr⟩
 | .own k ver, K, bx, _, _, _, _, h, hp, hi, hr => by
   simp only [frz] at h
   split at h
   ·rename_i e sz ver' rows hk
    cases h
    have hv : ver = ver' := hp _ (List.mem_singleton.2 rfl)
    subst hv
    rw [kG] at hk
    obtain ⟨K', h1, h2, h3⟩ := hi.give hk
    simp only [Rep] at hr
    rw [qF]
    exact ⟨K', h1, h2, h3 _ hr.1⟩
   ·cases h
 | .agg l, K, bx, _, _, _, _, h, hp, hi, hr => by
   simp only [frz] at h
   split at h
   ·rename_i p l' bx' hl
    cases h
    simp only [Rep] at hr
    obtain ⟨cs, h1, h2, h3⟩ := hr
    obtain ⟨K', h4, h5, h6⟩ := Z9 l hl hp hi h2
    exact ⟨K', h4, h5, by simp only [Rep]; exact ⟨cs, h1, h6, h3⟩⟩
   ·cases h
 | .tup l, K, bx, _, _, _, _, h, hp, hi, hr => by
   simp only [frz] at h
   split at h
   ·rename_i p l' bx' hl
    cases h
    simp only [Rep] at hr
    obtain ⟨cs, h1, h2⟩ := hr
    obtain ⟨K', h4, h5, h6⟩ := Z9 l hl hp hi h2
    exact ⟨K', h4, h5, by simp only [Rep]; exact ⟨cs, h1, h6⟩⟩
   ·cases h
 | .fn f l, K, bx, _, _, _, _, h, hp, hi, hr => by
   simp only [frz] at h
   split at h
   ·rename_i p l' bx' hl
    cases h
    simp only [Rep] at hr
    obtain ⟨cs, h1, h2⟩ := hr
    obtain ⟨K', h4, h5, h6⟩ := Z9 l hl hp hi h2
    exact ⟨K', h4, h5, by simp only [Rep]; exact ⟨cs, h1, h6⟩⟩
   ·cases h
 | .box _ _, _, _, _, _, _, _, h, _, _, _ => by simp [frz] at h
 | .boxi _ _, _, _, _, _, _, _, h, _, _, _ => by simp [frz] at h
 | .bsl _ _ _ _, _, _, _, _, _, _, h, _, _, _ => by simp [frz] at h
 | .ownm k ver, K, bx, _, _, _, _, h, hp, hi, hr => by
   simp only [frz] at h
   split at h
   ·rename_i ks vs hk
    cases h
    have hv : ver = 0 := hp _ (by simp)
    have hcl : jV vs = true := hp _ (by simp)
    subst hv
    rw [kG] at hk
    obtain ⟨K', h1, h2, h3⟩ := hi.giveM hk hcl
    simp only [Rep] at hr
    rw [qF]
    exact ⟨K', h1, h2, h3 _ hr.1⟩
   ·cases h
 | .el _ _ _ _, _, _, _, _, _, _, h, _, _, _ => by simp [frz] at h
 | .elo _ _ _ _ _, _, _, _, _, _, _, h, _, _, _ => by simp [frz] at h
 | .any, _, _, _, _, _, _, h, _, _, _ => by simp [frz] at h
theorem Z9 {F : Fr} {pl : Pl} {w : World} : ∀ (l : List D) {K : Kn} {bx : List Ent} {q : List Prop} {l' : List D} {bx' : List Ent} {vs : List Value}, jx6 bx l = some (q, l', bx') -> (∀ p ∈ q, p) -> Inv F K pl bx w -> RepL K pl l vs ->
  ∃ K', KLe K K' /\ Inv F K' pl bx' w /\ RepL K' vK l' vs
 | [], K, bx, _, _, _, vs, h, _, hi, hr => by
   simp only [jx6, Option.some.injEq, Prod.mk.injEq] at h
   obtain ⟨rfl, rfl, rfl⟩ := h
   exact ⟨K, KLe.refl _, hi, by simpa [RepL] using hr⟩
 | d :: l, K, bx, _, _, _, vs, h, hp, hi, hr => by
   simp only [jx6] at h
   split at h
   ·rename_i p d' bx1 hd
    split at h
    ·rename_i q l' bx2 hl
     cases h
     obtain ⟨hp1, hp2⟩ := kD2 hp
     simp only [RepL] at hr
     obtain ⟨v, r, rfl, h1, h2⟩ := hr
     obtain ⟨K1, h3, h4, h5⟩ := kd4 d hd hp1 hi h1
     obtain ⟨K2, h6, h7, h8⟩ := Z9 l hl hp2 h4 (RepL.mono h3 (PLe.refl _) _ _ h2)
     exact ⟨K2, h3.trans h6, h7, by simp only [RepL]; exact ⟨v, r, rfl, Rep.mono h6 (PLe.refl _) _ _ h5, h8⟩⟩
    ·cases h
   ·cases h
end
theorem kM3 {fz : Bool} {x : Operand} {x' : X} (hx : qm P ty x = some x') (op : Op) (hop : ∀ ρ : Operand -> Value, ∀ w, (execOp ρ ⟨dst, op, ty, pos, after, guard⟩).run P w = .ok (.value (ρ x)) w) : ResOk P gt ⟨dst, op, ty, pos, after, guard⟩ (.mv fz x') g env bx (jl gt (.mv fz x') g env bx) := by
 simp only [jl]
 split
 ·rename_i he
  refine ResOk.pure ?_
  intro F K pl w a hF hi hs hg hp
  exact ⟨a.eval x, hop _ _, kI hx hs hg he⟩
 ·rename_i he
  split
  ·rename_i q d' bx' hf
   intro F K pl w a hF hi hs hg hp
   obtain ⟨K', h1, h2, h3⟩ := kd4 _ hf hp hi (kI hx hs hg he)
   exact ⟨a.eval x, w, K', pl, .inl (hop _ _), h1, PLe.refl _, h2, Rep.mono (KLe.refl _) (PLe.zero _) _ _ h3⟩
  ·trivial
 ·trivial
theorem kH8 {c a b : Operand} {c' a' b' : X} (hc : qm P ty c = some c') (ha : qm P ty a = some a') (hb : qm P ty b = some b') :
  ResOk P gt ⟨dst, .pick c a b, ty, pos, after, guard⟩ (.pick c' a' b') g env bx (jl gt (.pick c' a' b') g env bx) := by
 cases c' with
 | c d => simp [jl, ResOk]
 | t s =>
   have hcs : c = .tmp s := by
    unfold qm at hc
    split at hc
    ·cases hc; rfl
    ·rename_i v; cases hv : ju0 P ty v <;> simp [hv] at hc
    ·cases hc
    ·cases hc
   subst hcs
   simp only [jl, kg]
   split
   ·split
    ·rename_i cb r hcb hr
     refine ResOk.pure ?_
     intro F K pl w a0 hF hi hs hg hp
     refine ⟨.bool (cb || r), ?_, by simp [Rep]⟩
     have h1 := jA5 (hs s (by simp [Jq, jv3])) hg hcb
     simp only [Rep] at h1
     have hav : a0.eval a = .bool true := by
      have := kI (K := K) (pl := pl) ha (fun s hs' => hs s (by simp [Jq]; simp [jv3] at hs')) hg (d := .bool true) (by simp [jL])
      simpa [Rep] using this
     cases cb with
     | true => simp [execOp, asBool, Act.eval, h1] at hav |-; exact hav
     | false =>
       have hg' : qo a0 ((s, false) :: g) := fun p hp => by rcases List.mem_cons.1 hp with rfl | hp; exact h1; exact hg p hp
       have h2 := kI (K := K) (pl := pl) hb (fun s hs' => hs s (by simp [Jq, hs'])) hg' hr
       simp only [Rep] at h2
       simp [execOp, asBool, Act.eval, h1] at h2 |-; exact h2
    ·trivial
   ·split
    ·rename_i cb r hcb hr
     refine ResOk.pure ?_
     intro F K pl w a0 hF hi hs hg hp
     refine ⟨.bool (cb && r), ?_, by simp [Rep]⟩
     have h1 := jA5 (hs s (by simp [Jq, jv3])) hg hcb
     simp only [Rep] at h1
     have hbv : a0.eval b = .bool false := by
      have := kI (K := K) (pl := pl) hb (fun s hs' => hs s (by simp [Jq]; simp [jv3] at hs')) hg (d := .bool false) (by simp [jL])
      simpa [Rep] using this
     cases cb with
     | false => simp [execOp, asBool, Act.eval, h1] at hbv |-; exact hbv
     | true =>
       have hg' : qo a0 ((s, true) :: g) := fun p hp => by rcases List.mem_cons.1 hp with rfl | hp; exact h1; exact hg p hp
       have h2 := kI (K := K) (pl := pl) ha (fun s hs' => hs s (by simp [Jq, hs'])) hg' hr
       simp only [Rep] at h2
       simp [execOp, asBool, Act.eval, h1] at h2 |-; exact h2
    ·trivial
   ·trivial
theorem yQ (t : TypeId) (v : Value) (w : World) : (newVar t v).run P w = .ok ⟨w.heap.size, 0, none⟩ (w.alloc (.cells v.cells t)) := by
 simp [newVar, newRow, newObj, Sem.run]
theorem kx3 {t : TypeId} {z : List D} (hz : xB P t = some (QE z)) : ResOk P gt ⟨dst, .alloc t, ty, pos, after, guard⟩ (.alloc z) g env bx (jl gt (.alloc z) g env bx) := by
 simp only [jl]
 split
 ·split
  ·rename_i e b0 sz l0
   intro F K pl w a hF hi hs hg hp
   obtain ⟨v, h1, h2, _⟩ := x6 hz w
   have h2' : v.cells.toList = [.slice none 0 0] := by
    simp only [QE] at h2
    revert h2
    generalize v.cells.toList = cs
    intro h2
    match cs, h2 with
    | [x], h2 =>
      simp only [yy, Bool.and_true] at h2
      unfold ka8 at h2
      split at h2 <;> first | rfl | (simp_all; done)
    | _ :: _ :: _, h2 => simp [yy] at h2
   obtain ⟨h3, h4⟩ := vO K pl h2
   obtain ⟨h5, h6, h7⟩ := hi.newVar t h3 h4
   rw [kK, qT, qT]
   have hlen : (bx ++ [Ent.cells (QE [.bsl e b0 sz l0])]).length = bx.length + 1 := by simp
   have hadd := h6.add (w' := w.alloc (.cells v.cells.toList.toArray t)) (.slice none 0 0) (.arr e sz 0 []) (.inl (by simp [jW, jY, vj])) (Chg.refl _ _) (by
    refine ⟨.slice none 0 0, [], jY _ _ _ _, World.ownsRow_nil _ _ _ _, by simp [RepL], fun v hv => (by cases hv), by simp [Value.ownBlock], fun ver' hv => ?_, fun _ _ => rfl⟩
    rw [qb (.inr (by omega))]
    exact h6.tab.free _ _ (Nat.le_refl _))
   rw [hlen] at hadd
   have hk : (bx ++ [Ent.cells (QE [.bsl e b0 sz l0])] ++ [Ent.arr e sz 0 []])[bx.length]? = some (.cells (QE [.bsl e b0 sz l0])) := by simp
   have hfin := hadd.2.upd (w' := w.alloc (.cells v.cells.toList.toArray t)) (e' := .cells [.own (bx.length + 1) 0]) hk (PLe.refl _) (fun _ _ _ => rfl) (fun b hb => .inl (by simpa [jW] using hb)) (Chg.refl _ _) (by
    obtain ⟨b, T, cs, g1, g2, g3, g4, g5⟩ := hadd.2.tab.ok _ _ hk
    have e1 : cs = [.slice none 0 0] := by
     simp only [QE, RepL, Rep] at g4
     obtain ⟨x, r, rfl, ⟨a0, n0, c0, rfl, hn0, _, _, _⟩, rfl⟩ := g4
     have hb' : b = w.heap.size := by
      rw [qb (.inl (by omega))] at g1
      rw [jY] at g1
      simpa using g1.symm
     subst hb'
     have := vh w (.cells v.cells.toList.toArray t)
     rw [g3] at this
     simp [h2'] at this
     rw [this.1.1, this.1.2.1, this.1.2.2]
    subst e1
    exact ⟨b, T, _, g1, g2, g3, by simp only [RepL, Rep]; exact ⟨_, _, rfl, ⟨jY _ _ _ _, none, 0, 0, rfl⟩, rfl⟩, g5⟩)
   refine ⟨.pointer (some ⟨w.heap.size, 0, none⟩), _, K, _, .inl ?_, KLe.refl _, h5.trans hadd.1, by simpa using hfin, Rep.mono (KLe.refl _) hadd.1 _ _ h7⟩
   simp [execOp, Instr.alloc, h1, yQ]
  ·rename_i z0 hne
   have hb0 : QE z = z := by
    unfold QE
    split
    ·exact absurd rfl (hne _ _ _ _)
    ·rfl
   rw [hb0] at hz
   intro F K pl w a hF hi hs hg hp
   obtain ⟨v, h1, h2, _⟩ := x6 hz w
   obtain ⟨h3, h4⟩ := vO K pl h2
   obtain ⟨h5, h6, h7⟩ := hi.newVar t h3 h4
   rw [kK, qT]
   refine ⟨_, _, K, _, .inl ?_, KLe.refl _, h5, h6, h7⟩
   simp [execOp, Instr.alloc, h1, yQ]
 ·trivial
theorem kS6 {t : TypeId} {x : Operand} {n : Option Nat} {x' : X} (hn : ve P t = some n) (hx : qm P t x = some x') :
  ResOk P gt ⟨dst, .box t x, ty, pos, after, guard⟩ (.box n.isSome x') g env bx (jl gt (.box n.isSome x') g env bx) := by
 have key : ∀ {l : List D} {d : D}, jL env [] x' = some d -> (∀ K pl v, Rep K pl d v -> RepL K pl l v.cells.toList /\ ∀ c ∈ v.cells.toList, c.oneCell' = true) ->
   ResOk P gt ⟨dst, .box t x, ty, pos, after, guard⟩ (.box n.isSome x') [] env bx (.ok [] (.box (jD bx) 0) (jX bx (.cells l))) := by
  intro l d he hd F K pl w a hF hi hs hg hp
  have h1 := kI (K := K) (pl := pl) hx hs (kF a) he
  obtain ⟨h3, h4⟩ := hd K pl _ h1
  obtain ⟨h5, h6, h7⟩ := hi.newVar t h3 h4
  rw [kK, qT]
  refine ⟨_, _, K, _, .inl ?_, KLe.refl _, h5, h6, h7⟩
  simp [execOp, Instr.box, yQ]
 simp only [jl]
 split
 ·split
  ·rename_i l hnn he
   refine key he fun K pl v hr => ?_
   simp only [Rep] at hr
   obtain ⟨cs, rfl, h2, h3⟩ := hr
   exact ⟨by simpa [Value.cells] using h2, by simpa [Value.cells] using h3⟩
  ·rename_i d hnn he
   cases ho : kj d with
   | false => simp [ResOk]
   | true =>
     simp only [cond_true]
     refine key he fun K pl v hr => ?_
     obtain ⟨h1, h2⟩ := hr.one ho
     rw [h1]
     exact ⟨by simp only [RepL]; exact ⟨v, [], rfl, hr, rfl⟩, by simp [h2]⟩
  ·trivial
 ·trivial
theorem ok_ld {t : TypeId} {x : Operand} {n : Option Nat} {x' : X} (hn : ve P t = some n) (hx : qm P 0 x = some x') :
  ResOk P gt ⟨dst, .load t x, ty, pos, after, guard⟩ (.ld n x') g env bx (jl gt (.ld n x') g env bx) := by
 simp only [jl]
 cases he : jL env g x' with
 | none => simp [ju, ResOk]
 | some d0 =>
   have hev : ∀ {K pl a}, (∀ s ∈ Jq (M.ld n x'), SlotOk K pl env a s) -> qo a g -> Rep K pl d0 (a.eval x) := fun hs hg => kI hx hs hg he
   cases d0 <;> try (simp [ju, ResOk]; done)
   case box k off =>
    simp only [ju]
    split
    ·rename_i l hk
     split
     ·rename_i d hd
      rw [kG] at hk
      refine ResOk.pure ?_
      intro F K pl w a hF hi hs hg hp
      have h1 := hev hs hg
      simp only [Rep] at h1
      obtain ⟨b, h2, h3⟩ := h1
      obtain ⟨b', T, cs, h4, h6, h7, h8, h9⟩ := hi.tab.ok k _ hk
      rw [h2] at h4; cases h4
      have hr : w.rangeAt b 0 cs := qJ h7 (by simp)
      obtain ⟨v, h10, h11⟩ := vN hn h8 h9 hr hd
      simp only [Nat.zero_add] at h10
      exact ⟨v, by simp [execOp, h3, h10], h11⟩
     ·trivial
    ·trivial
   case boxi k off =>
    simp only [ju]
    split
    ·rename_i l hk
     rw [kG] at hk
     intro F K pl w a hF hi hs hg hp d hd
     have h1 := hev hs hg
     simp only [Rep] at h1
     obtain ⟨b, h2, h3⟩ := h1
     obtain ⟨b', T, cs, h4, h6, h7, h8, h9⟩ := hi.tab.ok k _ hk
     rw [h2] at h4; cases h4
     have hr : w.rangeAt b 0 cs := qJ h7 (by simp)
     obtain ⟨v, h10, h11⟩ := vN hn h8 h9 hr hd
     simp only [Nat.zero_add] at h10
     exact ⟨v, by simp [execOp, h3, h10], h11⟩
    ·trivial
   case glob gl off =>
    simp only [ju]
    split
    ·rename_i l hk
     intro F K pl w a hF hi hs hg hp d hd
     have h1 := hev hs hg
     simp only [Rep] at h1
     obtain ⟨cs, T, fz, h4, h8, h9⟩ := hi.glob gl l (by rw [hF]; exact hk)
     have hr : w.rangeAt gl 0 cs.toList := qJ (hi.mod _ _ h4) (by simp)
     obtain ⟨v, h10, h11⟩ := vN hn h8 h9 hr hd
     simp only [Nat.zero_add] at h10
     exact ⟨v, by simp [execOp, h1, h10], Rep.mono (KLe.refl _) (PLe.zero _) _ _ h11⟩
    ·trivial
   case el sz l i off =>
    simp only [ju]
    intro F K pl w a hF hi hs hg hp d d' hd hd'
    have h1 := hev hs hg
    simp only [Rep] at h1
    obtain ⟨b, o, vs, h2, h3, h4, cs, T, fz, h5, h6, h7⟩ := h1
    have hr : w.rangeAt b o (qa vs) := qJ (hi.mod _ _ h5) h7
    obtain ⟨v, h10, h11⟩ := Yl hn h4 h6 hr hd hd' (PLe.zero pl)
    exact ⟨v, by simp [execOp, h2, h10], h11⟩
   case elo k ver sz i off =>
    simp only [ju]
    split
    ·rename_i e sz' ver' rows hk
     rw [kG] at hk
     intro F K pl w a hF hi hs hg hp d d' hd hd'
     have h1 := hev hs hg
     simp only [Rep] at h1
     obtain ⟨b, n', c, h2, h3⟩ := h1
     obtain ⟨v, vs, h4, h5, h6, h7, h8, h9⟩ := hi.tab.ok k _ hk
     obtain ⟨hver, hsz⟩ := hp _ (List.mem_singleton.2 rfl)
     subst hver; subst hsz
     rw [h2] at h4; cases h4
     rcases h5.2 with ⟨h10, _⟩ | ⟨g', cap, cur, h10, h11, h12, h13, h14, h15, h16⟩
     ·cases h10
     ·cases h10
      have hr : w.rangeAt b 0 (qa vs) := qJ h12 (by rw [List.drop_zero, <- h16]; exact List.take_prefix _ _)
      obtain ⟨v, h17, h18⟩ := Yl hn h6 h7 hr hd hd' (PLe.zero pl)
      simp only [Nat.zero_add] at h17
      exact ⟨v, by simp [execOp, h3, h17], h18⟩
    ·trivial
end
end Go.AM
