import Derived.Test.YtoaialdcgmkbgaaGreatRA32
import Derived.MapKept
import Derived.Maps.RangeRun

set_option linter.all false
namespace Go.AM
open Go Go.RowKit
abbrev KV := List (Int × D)
def qI (ik : IntKind) (kv : KV) : List D := kv.map fun p => .int ik p.1
def kZ (kv : KV) : List D := kv.map (·.2)
abbrev qO (ik : IntKind) (kv : KV) : D := .mp (qI ik kv) (kZ kv)
abbrev zf (ik : IntKind) (kv : KV) : Ent := .map (qI ik kv) (kZ kv)
section
variable {α β : Type}
def lk : List (Int × α) -> Int -> Option α
 | [], _ => none
 | p :: r, n => if p.1 = n then some p.2 else lk r n
def put : List (Int × α) -> Int -> α -> List (Int × α)
 | [], n, d => [(n, d)]
 | p :: r, n, d => if p.1 = n then (n, d) :: r else p :: put r n d
abbrev zC (kv : List (Int × α)) : Prop := (kv.map (·.1)).Nodup
theorem jc5 : ∀ {kv : List (Int × α)} {n : Int} {d : α}, zC kv -> (n, d) ∈ kv -> lk kv n = some d
 | [], _, _, _, h => by cases h
 | p :: r, n, d, hn, h => by
   simp only [zC, List.map_cons, List.nodup_cons] at hn
   rcases List.mem_cons.1 h with h | h
   ·subst h; simp [lk]
   ·have hne : p.1 ≠ n := fun e => hn.1 (e ▸ List.mem_map_of_mem (f := (·.1)) h)
    simp only [lk, if_neg hne]
    exact jc5 hn.2 h
theorem jc3 : ∀ {kv : List (Int × α)} {n : Int} {d : α}, lk kv n = some d -> (n, d) ∈ kv
 | [], _, _, h => by cases h
 | p :: r, n, d, h => by
   simp only [lk] at h
   split at h
   ·rename_i e; cases h; subst e; simp
   ·exact List.mem_cons_of_mem _ (jc3 h)
theorem Jr {kv : List (Int × α)} {n : Int} : lk kv n = none ↔ n ∉ kv.map (·.1) := by
 induction kv with
 | nil => simp [lk]
 | cons p r ih =>
   simp only [lk, List.map_cons, List.mem_cons, not_or]
   split
   ·rename_i e; simp [e]
   ·rename_i e; rw [ih]; exact ⟨fun h => ⟨fun h' => e h'.symm, h⟩, fun h => h.2⟩
theorem qA : ∀ {kv : List (Int × α)} {n : Int} {d : α}, lk kv n = none -> put kv n d = kv ++ [(n, d)]
 | [], _, _, _ => rfl
 | p :: r, n, d, h => by
   simp only [lk] at h
   split at h
   ·cases h
   ·rename_i e; simp [put, e, qA h]
theorem jH9 : ∀ {kv : List (Int × α)} {n : Int} {d d0 : α}, zC kv -> lk kv n = some d0 -> put kv n d = kv.map fun p => if p.1 = n then (n, d) else p
 | [], _, _, _, _, h => by cases h
 | p :: r, n, d, d0, hn, h => by
   simp only [zC, List.map_cons, List.nodup_cons] at hn
   by_cases e : p.1 = n
   ·simp only [put, List.map_cons, if_pos e]
    congr 1
    symm
    refine (List.map_congr_left fun q hq => ?_).trans (List.map_id _)
    have : q.1 ≠ n := fun e' => hn.1 (by rw [e, <- e']; exact List.mem_map_of_mem (f := (·.1)) hq)
    simp [this]
   ·simp only [lk, if_neg e] at h
    simp only [put, List.map_cons, if_neg e]
    rw [jH9 hn.2 h]
theorem jq2 : ∀ {kv : List (Int × α)} {n : Int} {d : α}, (put kv n d).map (·.1) = if lk kv n = none then kv.map (·.1) ++ [n] else kv.map (·.1)
 | [], _, _ => by simp [put, lk]
 | p :: r, n, d => by
   simp only [put, lk]
   by_cases e : p.1 = n
   ·simp [e]
   ·simp only [if_neg e, List.map_cons, jq2 (kv := r)]
    split <;> simp
theorem jH8 {kv : List (Int × α)} {n : Int} {d : α} (h : zC kv) : zC (put kv n d) := by
 unfold zC
 rw [jq2]
 split
 ·rename_i hn
  rw [Jr] at hn
  exact List.nodup_append.2 ⟨h, by simp, fun a ha b hb => by simp at hb; subst hb; exact fun e => hn (e ▸ ha)⟩
 ·exact h
theorem jr5 {kv : List (Int × α)} {n m : Int} {d : α} : lk (put kv n d) m = if n = m then some d else lk kv m := by
 induction kv with
 | nil => simp [put, lk]
 | cons p r ih =>
   simp only [put]
   by_cases e : p.1 = n
   ·subst e; by_cases e2 : p.1 = m <;> simp [lk, e2]
   ·by_cases e2 : p.1 = m
    ·subst e2; simp [lk, e, Ne.symm e]
    ·simp [lk, e, e2, ih]
theorem jK1 {f : α -> β} : ∀ {kv : List (Int × α)} {n : Int}, lk (kv.map fun p => (p.1, f p.2)) n = (lk kv n).map f
 | [], _ => rfl
 | p :: r, n => by
   simp only [List.map_cons, lk]
   split
   ·rfl
   ·exact jK1
theorem jS0 {f : α -> β} : ∀ {kv : List (Int × α)} {n : Int} {d : α}, put (kv.map fun p => (p.1, f p.2)) n (f d) = (put kv n d).map fun p => (p.1, f p.2)
 | [], _, _ => rfl
 | p :: r, n, d => by
   simp only [List.map_cons, put]
   split
   ·rfl
   ·simp [jS0]
theorem ki4 {f : α -> β} {kv : List (Int × α)} : zC (kv.map fun p => (p.1, f p.2)) ↔ zC kv := by
 unfold zC
 rw [List.map_map]; exact Iff.rfl
theorem kj1 {kv kv' : List (Int × α)} (h : kv.Perm kv') (hn : zC kv) (n : Int) : lk kv n = lk kv' n := by
 have hn' : zC kv' := (h.map _).nodup_iff.1 hn
 cases h1 : lk kv n with
 | some d => exact (jc5 hn' (h.mem_iff.1 (jc3 h1))).symm
 | none =>
   symm
   rw [Jr] at h1 |-
   exact fun hm => h1 ((h.map _).mem_iff.2 hm)
end
theorem YE {K : Kn} {ik : IntKind} : ∀ {kv : KV} {kvs : List Value}, RepL K vK (qI ik kv) kvs -> kvs = kv.map fun p => Value.int ik p.1
 | [], kvs, h => by simpa [qI, RepL] using h
 | p :: r, kvs, h => by
   simp only [qI, List.map_cons, RepL, Rep] at h
   obtain ⟨v, l, rfl, rfl, h3⟩ := h
   rw [YE (kv := r) h3]; rfl
theorem jU5 {K : Kn} {pl : Pl} {ik : IntKind} : ∀ {kv : KV}, RepL K pl (qI ik kv) (kv.map fun p => Value.int ik p.1)
 | [] => by simp [qI, RepL]
 | p :: r => by simp only [qI, List.map_cons, RepL, Rep]; exact ⟨_, _, rfl, rfl, jU5 (kv := r)⟩
theorem kf1 {K : Kn} {pl : Pl} {ik : IntKind} : ∀ {kv : KV} {vvs : List Value} {x y : Value}, RepL K pl (kZ kv) vvs -> (x, y) ∈ (kv.map fun p => Value.int ik p.1).zip vvs -> ∃ p ∈ kv, x = .int ik p.1 /\ Rep K pl p.2 y
 | [], vvs, x, y, _, h => by simp at h
 | p :: r, vvs, x, y, hr, h => by
   simp only [kZ, List.map_cons, RepL] at hr
   obtain ⟨v, l, rfl, h1, h2⟩ := hr
   simp only [List.map_cons, List.zip_cons_cons, List.mem_cons, Prod.mk.injEq] at h
   rcases h with ⟨rfl, rfl⟩ | h
   ·exact ⟨p, by simp, rfl, h1⟩
   ·obtain ⟨q, hq, h3⟩ := kf1 (kv := r) h2 h
    exact ⟨q, by simp [hq], h3⟩
theorem jJ2 {K : Kn} {pl : Pl} {kv : KV} {vvs : List Value} (h : RepL K pl (kZ kv) vvs) : vvs.length = kv.length := by have := h.length; simpa [kZ] using this
def MO (K : Kn) (pl : Pl) (ik : IntKind) (kv : KV) (es : Array MapEntry) : Prop :=
 ∃ vvs, RepL K pl (kZ kv) vvs /\ (es.toList.map fun e => (e.key, e.val)).Perm ((kv.map fun p => Value.int ik p.1).zip vvs)
section
variable {K : Kn} {pl : Pl} {ik : IntKind} {kv : KV} {es : Array MapEntry}
theorem MO.entry (h : MO K pl ik kv es) {e : MapEntry} (he : e ∈ es.toList) : ∃ p ∈ kv, e.key = .int ik p.1 /\ Rep K pl p.2 e.val := by
 obtain ⟨vvs, h1, h2⟩ := h
 exact kf1 h1 (h2.mem_iff.1 (List.mem_map.2 ⟨e, he, rfl⟩))
theorem MO.keys (h : MO K pl ik kv es) : (es.toList.map (·.key)).Perm (kv.map fun p => Value.int ik p.1) := by
 obtain ⟨vvs, h1, h2⟩ := h
 have := h2.map Prod.fst
 rw [List.map_map, List.map_fst_zip (by rw [jJ2 h1]; simp)] at this
 exact this
theorem MO.size (h : MO K pl ik kv es) : es.size = kv.length := by have := h.keys.length_eq; simpa using this
theorem MO.key (h : MO K pl ik kv es) {e : MapEntry} (he : e ∈ es.toList) : MapKept.IsKey (.int ik) e.key := by
 obtain ⟨p, _, h1, _⟩ := h.entry he
 rw [h1]; rfl
theorem MO.keysNd (h : MO K pl ik kv es) (hn : zC kv) : (es.toList.map (·.key)).Nodup := by
 rw [h.keys.nodup_iff]
 have e : (kv.map fun p => Value.int ik p.1) = (kv.map (·.1)).map (Value.int ik) := by rw [List.map_map]; rfl
 rw [e]
 exact List.Pairwise.map _ (fun a b h e => h (by injection e)) hn
theorem MO.find (h : MO K pl ik kv es) (hn : zC kv) (n : Int) : (lk kv n = none /\ Instr.findNow (.int ik) (.int ik n) es.toList 0 = some none /\ ∀ x ∈ es.toList, x.key ≠ .int ik n) \/
  ∃ d j e, lk kv n = some d /\ Instr.findNow (.int ik) (.int ik n) es.toList 0 = some (some (j, e.val)) /\ es.toList[j]? = some e /\ e.key = .int ik n /\ Rep K pl d e.val := by
 rcases MapKept.findNow_spec (d := .int ik) (k := .int ik n) rfl es.toList 0 (fun x hx => h.key hx) with ⟨h1, h2⟩ | ⟨j, e, h1, h2, h3⟩
 ·refine .inl ⟨?_, h1, h2⟩
  rw [Jr]
  intro hm
  obtain ⟨p, hp, e1⟩ := List.mem_map.1 hm
  have : Value.int ik n ∈ es.toList.map (·.key) := h.keys.mem_iff.2 (List.mem_map.2 ⟨p, hp, by rw [e1]⟩)
  obtain ⟨x, hx, e2⟩ := List.mem_map.1 this
  exact h2 x hx e2
 ·obtain ⟨p, hp, h4, h5⟩ := h.entry (List.mem_of_getElem? h2)
  rw [h3] at h4
  injection h4 with _ h4
  refine .inr ⟨p.2, j, e, jc5 hn (by rw [h4]; exact hp), by simpa using h1, h2, h3, h5⟩
end
def ZV (P : Program) (e : TypeId) (z : Value) : Prop := (P.info? e).bind (·.zero) = some z
def jU3 (c : Bool) (o : Option D) (zd : D) : D := match c, o with
 | false, some d => d
 | false, none => zd
 | true, some d => .tup [d, .bool true]
 | true, none => .tup [zd, .bool false]
section
variable {P : Program} {gt : Nat -> Option (List D)} {t k e : TypeId} {ik : IntKind}
theorem ku7 {z : Value} (hz : ZV P e z) (w : World) : (zeroValue e).run P w = .ok z w := by
 unfold ZV at hz
 cases h1 : P.info? e with
 | none => simp [h1] at hz
 | some i =>
   simp [h1] at hz
   simp [zeroValue, typeInfo, h1, hz]
theorem Xb (hu : P.underlying t = some (.map k e)) (hk : P.underlying k = some (.int ik)) {z : Value} (hz : ZV P e z) {w : World} {b : Nat} {es : Array MapEntry} {clock : Nat} (hb : w.heap[b]? = some (.map es clock)) {K : Kn} {pl : Pl} {kv : KV} (h : MO K pl ik kv es) (hn : zC kv) (n : Int) (c : Bool) :
  ∃ v, (Instr.lookup t (.map (some b)) (.int ik n) c).run P w = .ok v w /\ ((lk kv n = none /\ v = if c then .tuple #[z, .bool false] else z) \/ ∃ d u, lk kv n = some d /\ Rep K pl d u /\ v = if c then .tuple #[u, .bool true] else u) := by
 rcases h.find hn n with ⟨h1, h2, _⟩ | ⟨d, j, x, h1, h2, h3, h4, h5⟩
 ·refine ⟨_, ?_, .inl ⟨h1, rfl⟩⟩
  simp [Instr.lookup, Sem.run_bind, run_underlying hu, MapKept.run_getObj_map hb, MapKept.run_checkKey hk (show MapKept.IsKey (.int ik) (.int ik n) from rfl), MapKept.run_findKey hk h2, ku7 hz]
 ·refine ⟨_, ?_, .inr ⟨d, x.val, h1, h5, rfl⟩⟩
  simp [Instr.lookup, Sem.run_bind, run_underlying hu, MapKept.run_getObj_map hb, MapKept.run_checkKey hk (show MapKept.IsKey (.int ik) (.int ik n) from rfl), MapKept.run_findKey hk h2]
theorem jo9 (hu : P.underlying t = some (.map k e)) (hk : P.underlying k = some (.int ik)) {z : Value} (hz : ZV P e z) {w : World} (n : Int) (c : Bool) :
  (Instr.lookup t (.map none) (.int ik n) c).run P w = .ok (if c then .tuple #[z, .bool false] else z) w := by
 simp [Instr.lookup, Sem.run_bind, run_underlying hu, MapKept.run_checkKey hk (show MapKept.IsKey (.int ik) (.int ik n) from rfl), Instr.findKey, run_underlying hk, Instr.findNow, ku7 hz]
theorem jK3 {K : Kn} {pl : Pl} {kv : KV} {n : Int} {c : Bool} {v z : Value} {zd : D} (h : (lk kv n = none /\ v = if c then .tuple #[z, .bool false] else z) \/ ∃ d u, lk kv n = some d /\ Rep K pl d u /\ v = if c then .tuple #[u, .bool true] else u) (hzd : lk kv n = none -> Rep K pl zd z) : Rep K pl (jU3 c (lk kv n) zd) v := by
 rcases h with ⟨h1, rfl⟩ | ⟨d, u, h1, h2, rfl⟩
 ·rw [h1]
  cases c
  ·simpa [jU3] using hzd h1
  ·simp only [jU3, Rep, RepL, if_true]; exact ⟨_, rfl, _, _, rfl, hzd h1, _, _, rfl, rfl, rfl⟩
 ·rw [h1]
  cases c
  ·simpa [jU3] using h2
  ·simp only [jU3, Rep, RepL, if_true]; exact ⟨_, rfl, _, _, rfl, h2, _, _, rfl, rfl, rfl⟩
theorem kc4 {o : Oper} {xs : List Operand} {c : Bool} (h : (Pr.lkp t c).op xs = some o.op) : ∃ x i, xs = [x, i] /\ o.op = .lookup t x i c := by
 match xs, h with
 | [x, i], h => simp [Pr.op] at h; exact ⟨x, i, rfl, h.symm⟩
 | [], h => simp [Pr.op] at h
 | [_], h => simp [Pr.op] at h
 | _ :: _ :: _ :: _, h => simp [Pr.op] at h
theorem JJ {bx : List Ent} (hu : P.underlying t = some (.map k e)) (hk : P.underlying k = some (.int ik)) {z : Value} (hz : ZV P e z) {kv : KV} (hn : zC kv) (n : Int) (c : Bool) {zd : D} (hzd : lk kv n = none -> ∀ K pl, Rep K pl zd z) :
  PrM P gt (.lkp t c) [qO ik kv, .int ik n] bx (jU3 c (lk kv n) zd) bx := by
 refine PrM.of ?_
 intro F K pl w o ρ xs hF hρ hI hq hr
 obtain ⟨x, i, rfl, hop⟩ := kc4 hq
 obtain ⟨h1, e2⟩ := jA1 hr
 simp only [Rep] at h1 e2
 rcases h1 with ⟨h1, h2, _⟩ | ⟨b, kvs, vvs, h1, h2, h3, h4, es, clock, h5, h6, h7⟩
 ·have hkv : kv = [] := by simpa [qI] using h2
  subst hkv
  refine ⟨_, w, K, pl, .inl ?_, KLe.refl _, PLe.refl _, hI, jK3 (.inl ⟨rfl, rfl⟩) fun h => hzd h K pl⟩
  simp only [execOp, hop, h1, e2]
  simp [Sem.run_bind, jo9 hu hk hz]
 ·have hkv := YE h2
  subst hkv
  obtain ⟨v, hv, hc⟩ := Xb hu hk hz (hI.mod _ _ h5) (K := K) (pl := vK) ⟨vvs, h3, h6⟩ hn n c
  have hc' : (lk kv n = none /\ v = if c then .tuple #[z, .bool false] else z) \/ ∃ d u, lk kv n = some d /\ Rep K pl d u /\ v = if c then .tuple #[u, .bool true] else u := by
   rcases hc with hc | ⟨d, u, g1, g2, g3⟩
   ·exact .inl hc
   ·exact .inr ⟨d, u, g1, Rep.mono (KLe.refl _) (PLe.zero _) _ _ g2, g3⟩
  refine ⟨v, w, K, pl, .inl ?_, KLe.refl _, PLe.refl _, hI, jK3 hc' fun h => hzd h K pl⟩
  simp only [execOp, hop, h1, e2]
  simp [Sem.run_bind, hv]
theorem EntOk.mo {K : Kn} {pl : Pl} {w : World} {j : Nat} {kv : KV} (h : EntOk K pl w j (zf ik kv)) : ∃ b es clock, pl j 0 = some (.map (some b)) /\ K b = none /\ w.heap[b]? = some (.map es clock) /\ MO K pl ik kv es /\ (∀ e ∈ es, e.born < clock) /\ (es.toList.map (·.born)).Nodup := by
 obtain ⟨b, es, clock, kvs, vvs, h1, h2, h3, h4, h5, _, h6, h7, h8⟩ := h
 have := YE h4
 subst this
 exact ⟨b, es, clock, h1, h2, h3, ⟨vvs, h5, h6⟩, h7, h8⟩
theorem EntOk.of_mo {K : Kn} {pl : Pl} {w : World} {j b clock : Nat} {es : Array MapEntry} {kv : KV} (h1 : pl j 0 = some (.map (some b))) (h2 : K b = none) (h3 : w.heap[b]? = some (.map es clock)) (h4 : MO K pl ik kv es) (h5 : ∀ e ∈ es, e.born < clock) (h6 : (es.toList.map (·.born)).Nodup) : EntOk K pl w j (zf ik kv) := by
 obtain ⟨vvs, h7, h8⟩ := h4
 exact ⟨b, es, clock, _, vvs, h1, h2, h3, jU5, h7, by simp [qI, kZ], h8, h5, h6⟩
theorem Z2 {bx : List Ent} {j : Nat} (hu : P.underlying t = some (.map k e)) (hk : P.underlying k = some (.int ik)) {z : Value} (hz : ZV P e z) {kv : KV} (hj : jI bx j = some (zf ik kv)) (hn : zC kv) (n : Int) (c : Bool) {zd : D} (hzd : lk kv n = none -> ∀ K pl, Rep K pl zd z) :
  PrM P gt (.lkp t c) [.ownm j 0, .int ik n] bx (jU3 c (lk kv n) zd) bx := by
 refine PrM.of ?_
 intro F K pl w o ρ xs hF hρ hI hq hr
 obtain ⟨x, i, rfl, hop⟩ := kc4 hq
 obtain ⟨h1, e2⟩ := jA1 hr
 simp only [Rep] at h1 e2
 rw [kG] at hj
 obtain ⟨b, es, clock, g1, g2, g3, g4, g5, g6⟩ := (hI.tab.ok j _ hj).mo
 rw [h1.1] at g1
 injection g1 with g1
 obtain ⟨v, hv, hc⟩ := Xb hu hk hz g3 g4 hn n c
 refine ⟨v, w, K, pl, .inl ?_, KLe.refl _, PLe.refl _, hI, jK3 hc fun h => hzd h K pl⟩
 simp only [execOp, hop, g1, e2]
 simp [Sem.run_bind, hv]
theorem kH2 {bx : List Ent} {j j2 : Nat} {et : TypeId} {sz : Nat} (hu : P.underlying t = some (.map k e)) (hk : P.underlying k = some (.int ik)) (hz : ZV P e (.slice none 0 0)) {kv : KV} (hj : jI bx j = some (zf ik kv)) (hj2 : jI bx j2 = some (.arr et sz 0 [])) (hn : zC kv) (n : Int) (hno : lk kv n = none) :
  PrM P gt (.lkp t false) [.ownm j 0, .int ik n] bx (.own j2 0) bx := by
 refine PrM.of ?_
 intro F K pl w o ρ xs hF hρ hI hq hr
 obtain ⟨x, i, rfl, hop⟩ := kc4 hq
 obtain ⟨h1, e2⟩ := jA1 hr
 simp only [Rep] at h1 e2
 rw [kG] at hj hj2
 obtain ⟨b, es, clock, g1, g2, g3, g4, g5, g6⟩ := (hI.tab.ok j _ hj).mo
 obtain ⟨v0, vs, q1, _, _, _, _, _, q2⟩ := hI.tab.ok j2 _ hj2
 rw [q2 rfl rfl] at q1
 rw [h1.1] at g1
 injection g1 with g1
 obtain ⟨v, hv, hc⟩ := Xb hu hk hz g3 g4 hn n false
 have hv0 : v = .slice none 0 0 := by
  rcases hc with ⟨_, hc⟩ | ⟨d, u, hc, _⟩
  ·simpa using hc
  ·rw [hno] at hc; cases hc
 refine ⟨v, w, K, pl, .inl ?_, KLe.refl _, PLe.refl _, hI, by simp only [Rep]; rw [hv0]; exact ⟨q1, none, 0, 0, rfl⟩⟩
 simp only [execOp, hop, g1, e2]
 simp [Sem.run_bind, hv]
/-! ### Update -/
theorem jY1 {o : Oper} {xs : List Operand} (h : (Pr.upd t).op xs = some o.op) : ∃ m k v, xs = [m, k, v] /\ o.op = .mapUpdate t m k v := by
 match xs, h with
 | [m, k, v], h => simp [Pr.op] at h; exact ⟨m, k, v, rfl, h.symm⟩
 | [], h => simp [Pr.op] at h
 | [_], h => simp [Pr.op] at h
 | [_, _], h => simp [Pr.op] at h
 | _ :: _ :: _ :: _ :: _, h => simp [Pr.op] at h
theorem kr2 {α β : Type} {l : List α} {m : List β} {a : α} {b : β} (h : l.length = m.length) : (l ++ [a]).zip (m ++ [b]) = l.zip m ++ [(a, b)] := by
 rw [List.zip_append h]; rfl
def isK (n : Int) : Value -> Bool
 | .int _ m => decide (m = n)
 | _ => false
def jy8 (n : Int) (v : Value) : KV -> List Value -> List Value
 | p :: r, u :: us => (if p.1 = n then v else u) :: jy8 n v r us
 | _, _ => []
theorem jN9 {K : Kn} {pl : Pl} {n : Int} {d : D} {v : Value} (hd : Rep K pl d v) : ∀ {kv : KV} {us : List Value}, RepL K pl (kZ kv) us -> RepL K pl (kZ (kv.map fun p => if p.1 = n then (n, d) else p)) (jy8 n v kv us)
 | [], us, h => by simp [kZ, RepL, jy8]
 | p :: r, us, h => by
   simp only [kZ, List.map_cons, RepL] at h |-
   obtain ⟨u, l, rfl, h1, h2⟩ := h
   refine ⟨_, _, rfl, ?_, jN9 hd h2⟩
   by_cases e : p.1 = n
   ·simpa [e] using hd
   ·simpa [e] using h1
theorem jN8 {n : Int} {v : Value} : ∀ {kv : KV} {us : List Value}, us.length = kv.length -> (kv.map fun p => Value.int ik p.1).zip (jy8 n v kv us) = ((kv.map fun p => Value.int ik p.1).zip us).map fun q => if isK n q.1 then (q.1, v) else q
 | [], us, h => by simp
 | p :: r, [], h => by simp at h
 | p :: r, u :: us, h => by
   simp only [jy8, List.map_cons, List.zip_cons_cons]
   rw [jN8 (by simpa using h)]
   by_cases e : p.1 = n
   ·subst e; simp [isK]
   ·simp [e, isK]
theorem jy7 {n : Int} {d : D} : ∀ {kv : KV}, ((kv.map fun p => if p.1 = n then (n, d) else p).map fun p => Value.int ik p.1) = kv.map fun p => Value.int ik p.1
 | [] => rfl
 | p :: r => by
   simp only [List.map_cons]
   rw [jy7 (kv := r)]
   by_cases e : p.1 = n
   ·subst e; simp
   ·simp [e]
theorem MO.put {K : Kn} {pl : Pl} {kv : KV} {es : Array MapEntry} {clock : Nat} (h : MO K pl ik kv es) (hn : zC kv) (h1 : ∀ e ∈ es, e.born < clock) (h2 : (es.toList.map (·.born)).Nodup) {n : Int} {d : D} {v : Value} (hd : Rep K pl d v) {k : TypeId} (hk : P.underlying k = some (.int ik)) {w : World} {t e : TypeId} (hu : P.underlying t = some (.map k e)) {b : Nat} (hb : w.heap[b]? = some (.map es clock)) :
  ∃ es' clock', (Instr.mapUpdate t (.map (some b)) (.int ik n) v).run P w = .ok () { w with heap := w.heap.setIfInBounds b (.map es' clock') } /\ MO K pl ik (put kv n d) es' /\ (∀ e ∈ es', e.born < clock') /\ (es'.toList.map (·.born)).Nodup := by
 have hkey : MapKept.IsKey (.int ik) (.int ik n) := rfl
 have hst : MapKept.Stamped es clock := ⟨fun x hx => h1 x (by simpa using hx), h2, h.keysNd hn⟩
 rcases h.find hn n with ⟨g1, g2, g3⟩ | ⟨d0, j, x, g1, g2, g3, g4, g5⟩
 ·have hs := MapKept.stamped_push hst (key := .int ik n) (val := v) g3
  refine ⟨es.push { key := .int ik n, val := v, born := clock }, clock + 1, ?_, ?_, fun x hx => hs.1 x (by simpa using hx), hs.2.1⟩
  ·simp [Instr.mapUpdate, run_underlying hu, MapKept.run_getObj_map hb, MapKept.run_checkKey hk hkey, MapKept.run_findKey hk g2, MapKept.run_setObj_map _ hb, Result.andThen]
  ·rw [qA g1]
   obtain ⟨vvs, q1, q2⟩ := h
   refine ⟨vvs ++ [v], ?_, ?_⟩
   ·simp only [kZ, List.map_append, List.map_cons, List.map_nil]
    exact RepL.append q1 (by simp only [RepL]; exact ⟨_, _, rfl, hd, rfl⟩)
   ·simp only [Array.toList_push, List.map_append, List.map_cons, List.map_nil]
    rw [kr2 (by rw [jJ2 q1]; simp)]
    exact q2.append_right _
 ·have hja : es[j]? = some x := by simpa using g3
  have hf : ∀ e', es[j]? = some e' -> ({ e' with key := .int ik n, val := v } : MapEntry).key = e'.key := fun e' he' => by rw [hja] at he'; cases he'; exact g4.symm
  have hs := MapKept.stamped_modify hst j (fun e => { e with key := .int ik n, val := v }) (fun _ _ => rfl) (fun e' _ he' => hf e' he')
  refine ⟨es.modify j fun e => { e with key := .int ik n, val := v }, clock, ?_, ?_, fun x hx => hs.1 x (Array.mem_toList_iff.2 hx), hs.2.1⟩
  ·simp [Instr.mapUpdate, run_underlying hu, MapKept.run_getObj_map hb, MapKept.run_checkKey hk hkey, MapKept.run_findKey hk g2, hja, g4, MapKept.run_keyThatStays hkey, MapKept.run_setObj_map _ hb, Result.andThen]
  ·rw [jH9 hn g1]
   have hnd := h.keysNd hn
   have hMO := h
   obtain ⟨vvs, q1, q2⟩ := h
   refine ⟨jy8 n v kv vvs, jN9 hd q1, ?_⟩
   rw [jy7, jN8 (jJ2 q1)]
   have hm : ((es.modify j fun e => { e with key := .int ik n, val := v }).toList.map fun e => (e.key, e.val)) = (es.toList.map fun e => (e.key, e.val)).map fun q => if isK n q.1 then (q.1, v) else q := by
    apply List.ext_getElem?
    intro i
    simp only [List.getElem?_map, Array.getElem?_toList, Array.getElem?_modify]
    by_cases hij : j = i
    ·subst hij
     simp [hja, g4, isK]
    ·rw [if_neg hij]
     cases hi : es[i]? with
     | none => simp
     | some y =>
       have hne : y.key ≠ .int ik n := fun ey => hij (by
        have e1 : (es.toList.map (·.key))[j]? = some (.int ik n) := by simp [hja, g4]
        have e2 : (es.toList.map (·.key))[i]? = some (.int ik n) := by simp [hi, ey]
        exact (List.getElem?_inj (by simpa using (Array.getElem?_eq_some_iff.1 hja).1) hnd).1 (e1.trans e2.symm))
       obtain ⟨p, _, ek, _⟩ := hMO.entry (e := y) (by simpa using Array.mem_of_getElem? hi)
       rw [ek] at hne
       have : p.1 ≠ n := fun e => hne (by rw [e])
       simp [ek, isK, this]
   rw [hm]
   exact q2.map _
theorem jG8 (w : World) (b : Nat) (o : Obj) {c : Nat} (h : c ≠ b) : ({ w with heap := w.heap.setIfInBounds b o } : World).heap[c]? = w.heap[c]? := by
 simp [Ne.symm h]
theorem jQ7 (w : World) (b : Nat) (o : Obj) (h : b < w.heap.size) : ({ w with heap := w.heap.setIfInBounds b o } : World).heap[b]? = some o := by
 simp [h]
theorem Chg.setObj (w : World) (b : Nat) (o : Obj) : Chg (fun c => c = b) w { w with heap := w.heap.setIfInBounds b o } :=
 ⟨rfl, rfl, rfl, by simp, fun k _ hn => jG8 w b o hn⟩
theorem vY {bx : List Ent} {j : Nat} (hu : P.underlying t = some (.map k e)) (hk : P.underlying k = some (.int ik)) {kv : KV} (hj : jI bx j = some (zf ik kv)) (hn : zC kv) (n : Int) (d : D) :
  PrM P gt (.upd t) [.ownm j 0, .int ik n, d] bx .any (jQ bx j (zf ik (put kv n d))) := by
 refine PrM.of ?_
 intro F K pl w o ρ xs hF hρ hI hq hr
 obtain ⟨x, i, y, rfl, hop⟩ := jY1 hq
 obtain ⟨h1, e2, h3⟩ := jR3 hr
 simp only [Rep] at h1 e2
 rw [kG] at hj
 obtain ⟨b, es, clock, g1, g2, g3, g4, g5, g6⟩ := (hI.tab.ok j _ hj).mo
 have g1' := g1
 rw [h1.1] at g1
 injection g1 with g1
 obtain ⟨es', clock', q1, q2, q3, q4⟩ := g4.put (P := P) hn g5 g6 h3 hk hu g3
 have hb := (Array.getElem?_eq_some_iff.1 g3).1
 refine ⟨undef, { w with heap := w.heap.setIfInBounds b (.map es' clock') }, K, pl, .inr ⟨?_, rfl⟩, KLe.refl _, PLe.refl _, ?_, by simp [Rep]⟩
 rotate_left
 ·rw [qF]
  refine hI.upd (w' := { w with heap := w.heap.setIfInBounds b (.map es' clock') }) hj (PLe.refl _) (fun _ _ _ => rfl) (fun c hc => .inl (by rw [zP g1'] at hc |-; exact hc)) ?_ (EntOk.of_mo g1' g2 (jQ7 w b _ hb) q2 q3 q4)
  have := Chg.setObj w b (.map es' clock')
  exact ⟨this.os, this.tape, this.output, this.size, fun c hc hn => this.block c hc fun e => hn (by rw [e]; exact zP g1')⟩
 ·simp only [execOp, hop, g1, e2]
  simp [Sem.run_bind, q1]
theorem Xh {bx : List Ent} : PrM P gt (.mkm t) [] bx (.ownm (jD bx) 0) (jX bx (zf ik [])) := by
 refine PrM.of ?_
 intro F K pl w o ρ xs hF hρ hI hq hr
 have hx : xs = [] := by simpa [RepL] using hr
 subst hx
 have hop : o.op = .makeMap t none := by simp [Pr.op] at hq; exact hq.symm
 rw [kK, qT]
 have hadd := hI.add (w' := w.alloc (.map #[] 0)) (.map (some w.heap.size)) (zf ik []) (.inr (zP (jY _ _ _ _))) (Chg.alloc w _)
  (EntOk.of_mo (es := #[]) (clock := 0) (jY _ _ _ _) hI.fresh (vh w _) ⟨[], by simp [kZ, RepL], by simp⟩ (by simp) (by simp))
 refine ⟨.map (some w.heap.size), _, K, _, .inl ?_, KLe.refl _, hadd.1, hadd.2, by simp only [Rep]; exact ⟨jY _ _ _ _, _, rfl⟩⟩
 simp only [execOp, hop]
 simp [Instr.makeMap, newObj, Sem.run_bind, Sem.run]
theorem kh6 {bx : List Ent} {n : Int} (hu : P.underlying t = some (.map k e)) : PrM P gt (.mkm t) [.int .i64 n] bx (.ownm (jD bx) 0) (jX bx (zf ik [])) := by
 refine PrM.of ?_
 intro F K pl w o ρ xs hF hρ hI hq hr
 obtain ⟨x, rfl⟩ : ∃ x, xs = [x] := by
  simp only [RepL] at hr
  obtain ⟨v, r, h1, _, rfl⟩ := hr
  match xs, h1 with
  | [x], _ => exact ⟨x, rfl⟩
  | [], h => simp at h
  | _ :: _ :: _, h => simp at h
 have h1 := Yo hr
 simp only [Rep] at h1
 have hop : o.op = .makeMap t (some x) := by simp [Pr.op] at hq; exact hq.symm
 rw [kK, qT]
 have hadd := hI.add (w' := w.alloc (.map #[] 0)) (.map (some w.heap.size)) (zf ik []) (.inr (zP (jY _ _ _ _))) (Chg.alloc w _)
  (EntOk.of_mo (es := #[]) (clock := 0) (jY _ _ _ _) hI.fresh (vh w _) ⟨[], by simp [kZ, RepL], by simp⟩ (by simp) (by simp))
 refine ⟨.map (some w.heap.size), _, K, _, .inl ?_, KLe.refl _, hadd.1, hadd.2, by simp only [Rep]; exact ⟨jY _ _ _ _, _, rfl⟩⟩
 simp only [execOp, hop]
 simp [Instr.makeMap, newObj, asInt, asIntOf, Sem.run_bind, Sem.run, h1, run_underlying hu, Result.andThen]
theorem jb8 {bx : List Ent} (hu : P.underlying t = some (.map k e)) {kv : KV} : PrM P gt (.lenm t) [qO ik kv] bx (.int .i64 kv.length) bx := by
 refine PrM.of ?_
 intro F K pl w o ρ xs hF hρ hI hq hr
 obtain ⟨x, rfl, hop⟩ := jc0 (f := fun x => .call ⟨.builtin .len, #[x], #[t]⟩) (fun _ => rfl) rfl (fun _ _ _ => rfl) hq
 have h1 := Yo hr
 simp only [Rep] at h1
 have hl : (Builtin.len_ #[t] o.type #[ρ x]).run P w = .ok (.int .i64 kv.length) w := by
  rcases h1 with ⟨h1, h2, _⟩ | ⟨b, kvs, vvs, h1, h2, h3, h4, es, clock, h5, h6, h7⟩
  ·have hkv : kv = [] := by simpa [qI] using h2
   subst hkv
   simp [Builtin.len_, h1, Sem.run_bind, run_underlying hu, goInt]
  ·have hkv := YE h2
   subst hkv
   have hs : es.size = kv.length := MO.size (ik := ik) (K := K) (pl := vK) ⟨vvs, h3, h6⟩
   simp [Builtin.len_, h1, Sem.run_bind, run_underlying hu, MapKept.run_getObj_map (hI.mod _ _ h5), goInt, hs]
 refine ⟨.int .i64 kv.length, w, K, pl, .inl ?_, KLe.refl _, PLe.refl _, hI, by simp only [Rep]⟩
 simp only [execOp, hop]
 simp only [Sem.run_bind, resolve, Sem.run_pure, Result.andThen_ok, invoke, builtin]
 simp [Sem.run_bind, hl]
/-! ### Delete -/
/-! ### Range -/
theorem XU {α β : Type} : ∀ {l : List α} {m : List β} {i : Nat}, (l.zip m).eraseIdx i = (l.eraseIdx i).zip (m.eraseIdx i)
 | [], m, i => by simp
 | a :: l, [], i => by simp
 | a :: l, b :: m, 0 => by simp
 | a :: l, b :: m, i + 1 => by simp [XU]
theorem RepL.eraseIdx {K : Kn} {pl : Pl} : ∀ {l : List D} {vs : List Value} {i : Nat}, RepL K pl l vs -> RepL K pl (l.eraseIdx i) (vs.eraseIdx i)
 | [], vs, i, h => by simp [RepL] at h; subst h; simp [RepL]
 | d :: l, vs, 0, h => by simp only [RepL] at h; obtain ⟨v, r, rfl, _, h2⟩ := h; simpa using h2
 | d :: l, vs, i + 1, h => by
   simp only [RepL] at h; obtain ⟨v, r, rfl, h1, h2⟩ := h
   simp only [List.eraseIdx_cons_succ, RepL]
   exact ⟨_, _, rfl, h1, h2.eraseIdx⟩
theorem RepL.back {K : Kn} {pl : Pl} : ∀ {l : List D} {vs : List Value} {i : Nat} {v : Value}, RepL K pl l vs -> vs[i]? = some v -> ∃ d, l[i]? = some d /\ Rep K pl d v
 | [], vs, i, v, h, hi => by simp [RepL] at h; subst h; simp at hi
 | d :: l, vs, i, v, h, hi => by
   simp only [RepL] at h; obtain ⟨u, r, rfl, h1, h2⟩ := h
   cases i with
   | zero => simp at hi; subst hi; exact ⟨d, by simp, h1⟩
   | succ i => simpa using h2.back (by simpa using hi)
theorem jD6 {α : Type} {f : α -> Nat} : ∀ {l : List α} {e : α}, (l.map f).Nodup -> e ∈ l -> l.Perm (e :: l.filter fun x => f x != f e)
 | [], _, _, h => by cases h
 | x :: l, e, hn, h => by
   simp only [List.map_cons, List.nodup_cons] at hn
   rcases List.mem_cons.1 h with rfl | h
   ·rw [List.filter_cons]
    simp only [bne_self_eq_false, Bool.false_eq_true, if_false]
    rw [List.filter_eq_self.2]
    intro y hy
    have : f y ≠ f e := fun e' => hn.1 (e' ▸ List.mem_map_of_mem hy)
    simpa using this
   ·have hne : f x ≠ f e := fun e' => hn.1 (e' ▸ List.mem_map_of_mem h)
    rw [List.filter_cons, if_pos (by simpa using hne)]
    exact ((jD6 hn.2 h).cons x).trans (List.Perm.swap _ _ _)
theorem Xk {α : Type} : ∀ {l : List α} {i : Nat} {a : α}, l[i]? = some a -> l.Perm (a :: l.eraseIdx i)
 | [], _, _, h => by simp at h
 | x :: l, 0, a, h => by simp at h; subst h; simp
 | x :: l, i + 1, a, h => by
   simp at h
   exact ((Xk h).cons x).trans (List.Perm.swap _ _ _)
theorem kP4 {o : Oper} {xs : List Operand} (h : (Pr.rng t).op xs = some o.op) : ∃ x, xs = [x] /\ o.op = .range t x := jc0 (f := fun x => .range t x) (fun _ => rfl) rfl (fun _ _ _ => rfl) h
theorem jI2 {bx : List Ent} (hu : P.underlying t = some (.map k e)) {ks vs : List D} : PrM P gt (.rng t) [.mp ks vs] bx (.box (jD bx) 0) (jX bx (.iter none ks vs)) := by
 refine PrM.of ?_
 intro F K pl w o ρ xs hF hρ hI hq hr
 obtain ⟨x, rfl, hop⟩ := kP4 hq
 have h1 := Yo hr
 simp only [Rep] at h1
 rw [kK, qT]
 rcases h1 with ⟨h1, h2, h3⟩ | ⟨b, kvs, vvs, h1, h2, h3, h4, es, clock, h5, h6, h7, h8⟩
 ·have hadd := hI.add (w' := w.alloc (.mapIter none 0 #[] 0)) (.pointer (some ⟨w.heap.size, 0, none⟩)) (.iter none ks vs) (.inr (vC (jY _ _ _ _))) (Chg.alloc w _)
   ⟨w.heap.size, jY _ _ _ _, hI.fresh, .inl ⟨vh w _, h2, h3, rfl⟩⟩
  refine ⟨.pointer (some ⟨w.heap.size, 0, none⟩), _, K, _, .inl ?_, KLe.refl _, hadd.1, hadd.2, by simp only [Rep]; exact ⟨_, jY _ _ _ _, rfl⟩⟩
  simp only [execOp, hop, h1]
  simp [Instr.range, run_underlying hu, newObj, Sem.run_bind, Sem.run]
 ·have hadd := hI.add (w' := w.alloc (.mapIter (some b) clock #[] clock)) (.pointer (some ⟨w.heap.size, 0, none⟩)) (.iter none ks vs) (.inr (vC (jY _ _ _ _))) (Chg.alloc w _)
   ⟨w.heap.size, jY _ _ _ _, hI.fresh, .inr ⟨b, es, clock, #[], kvs, vvs, vh w _, h5, h7, h8, h2, h3, h4, by rw [List.filter_eq_self.2 (fun _ _ => by simp)]; exact h6, by simp⟩⟩
  refine ⟨.pointer (some ⟨w.heap.size, 0, none⟩), _, K, _, .inl ?_, KLe.refl _, hadd.1, hadd.2, by simp only [Rep]; exact ⟨_, jY _ _ _ _, rfl⟩⟩
  have hb := hI.mod _ _ h5
  simp only [execOp, hop, h1]
  simp [Instr.range, run_underlying hu, MapKept.run_getObj_map hb, newObj, Sem.run_bind, Sem.run]
def NxT (bx : List Ent) (j : Nat) (ks vs : List D) (d : D) (bx' : List Ent) : Prop :=
 (ks = [] /\ d = .tup [.bool false] /\ bx' = bx) \/ ∃ i dk dv, ks[i]? = some dk /\ vs[i]? = some dv /\ d = .tup [.bool true, dk, dv] /\ bx' = jQ bx j (.iter (some (dk, dv)) (ks.eraseIdx i) (vs.eraseIdx i))
theorem jI3 {bx : List Ent} {j : Nat} {cur : Option (D × D)} {ks vs : List D} (hj : jI bx j = some (.iter cur ks vs)) : PrA P gt (.nxt false) [.box j 0] bx (NxT bx j ks vs) := by
 refine PrA.of ?_
 intro F K pl w o ρ xs hF hρ hI hq hr
 obtain ⟨x, rfl, hop⟩ := jc0 (f := fun x => .next x false) (fun _ => rfl) rfl (fun _ _ _ => rfl) hq
 have h1 := Yo hr
 simp only [Rep] at h1
 rw [kG] at hj
 obtain ⟨r, g1, g2, g3⟩ := hI.tab.ok j _ hj
 obtain ⟨b0, g0, h1⟩ := h1
 rw [g1] at g0; cases g0
 rcases g3 with ⟨g3, rfl, rfl, rfl⟩ | ⟨m, es, clock, seen, kvs, vvs, g3, g4, g5, g6, g7, g8, g9, q1, q2⟩
 ·refine ⟨.tuple #[.bool false], w, K, pl, .tup [.bool false], bx, .inl ⟨rfl, rfl, rfl⟩, .inl ?_, KLe.refl _, PLe.refl _, hI, by simp only [Rep, RepL]; exact ⟨_, rfl, _, _, rfl, rfl, rfl⟩⟩
  simp only [execOp, hop, h1]
  simp [Instr.next, getObj, Sem.run_bind, Sem.run, g3]
 ·have hb := hI.mod _ _ g4
  have hleft : (leftOf es seen).toList = es.toList.filter fun e => !seen.contains e.born := by simp [leftOf]
  rcases run_next_at (P := P) w o.type r m clock clock seen es clock g3 hb (fun x hx => g5 x (by simpa using hx)) (Nat.le_refl _) with ⟨h0, hrun⟩ | ⟨e, he, w1, hal, hrun⟩
  ·have hnil : ks = [] := by
    have e0 : es.toList.filter (fun e => !seen.contains e.born) = [] := by
     rw [<- hleft]; simpa using h0
    rw [e0] at q1
    have := q1.length_eq
    have l1 := g7.length
    have l2 := g8.length
    simp at this
    apply List.eq_nil_of_length_eq_zero
    omega
   refine ⟨.tuple #[.bool false], w, K, pl, .tup [.bool false], bx, .inl ⟨hnil, rfl, rfl⟩, .inl ?_, KLe.refl _, PLe.refl _, hI, by simp only [Rep, RepL]; exact ⟨_, rfl, _, _, rfl, rfl, rfl⟩⟩
   simp only [execOp, hop, h1]
   simp [Sem.run_bind, hrun]
  ·rw [hleft] at he
   have hmem : (e.key, e.val) ∈ kvs.zip vvs := q1.mem_iff.1 (List.mem_map.2 ⟨e, he, rfl⟩)
   obtain ⟨i, hi⟩ := List.mem_iff_getElem?.1 hmem
   have hi2 := hi
   rw [List.getElem?_zip_eq_some] at hi2
   obtain ⟨dk, p1, p2⟩ := g7.back hi2.1
   obtain ⟨dv, p3, p4⟩ := g8.back hi2.2
   have hes : e ∈ es := by simpa using (List.mem_filter.1 he).1
   have hrlt := (Array.getElem?_eq_some_iff.1 g3).1
   have hheap : w1.heap = w.heap := by rcases hal with rfl | rfl <;> rfl
   have hchg : Chg (fun b => jW pl j (.iter cur ks vs) = some b) w (ChangeMaps.setBlock w1 r (.mapIter (some m) clock (seen.push e.born) clock)) := by
    refine ⟨?_, ?_, ?_, ?_, fun c hc hn => ?_⟩
    ·rcases hal with rfl | rfl <;> rfl
    ·rcases hal with rfl | rfl <;> rfl
    ·rcases hal with rfl | rfl <;> rfl
    ·simp [ChangeMaps.setBlock, hheap]
    ·have hne : c ≠ r := fun e' => hn (by rw [e']; exact vC g1)
     simp [ChangeMaps.setBlock, hheap, Ne.symm hne]
   have hperm : ((es.toList.filter fun x => !(seen.push e.born).contains x.born).map fun e => (e.key, e.val)).Perm ((kvs.eraseIdx i).zip (vvs.eraseIdx i)) := by
    have e1 : (es.toList.filter fun x => !(seen.push e.born).contains x.born) = (es.toList.filter fun x => !seen.contains x.born).filter fun x => x.born != e.born := by
     rw [List.filter_filter]
     congr 1
     funext x
     by_cases hx : x.born = e.born <;> simp [hx, bne, Bool.and_comm]
    rw [e1]
    have e2 := (jD6 (f := (·.born)) ((List.filter_sublist.map _).nodup g6) he).map fun e => (e.key, e.val)
    have e3 := e2.symm.trans q1
    rw [<- XU]
    have hil : i < (kvs.zip vvs).length := (List.getElem?_eq_some_iff.1 hi).1
    have e4 := Xk hi
    exact (e3.trans e4).cons_inv
   have hfin := hI.upd (e' := .iter (some (dk, dv)) (ks.eraseIdx i) (vs.eraseIdx i)) hj (PLe.refl _) (fun _ _ _ => rfl) (fun b hb => .inl (by rw [vC g1] at hb |-; exact hb)) hchg (by
    refine ⟨r, g1, g2, .inr ⟨m, es, clock, seen.push e.born, kvs.eraseIdx i, vvs.eraseIdx i, ?_, g4, g5, g6, g7.eraseIdx, g8.eraseIdx, ?_, hperm, ?_⟩⟩
    ·simp [ChangeMaps.setBlock, hheap, hrlt]
    ·rw [List.length_eraseIdx, List.length_eraseIdx, g9]
    ·intro a b hab
     simp at hab
     obtain ⟨rfl, rfl⟩ := hab
     exact ⟨e, hes, by simp, p2, p4⟩)
   refine ⟨.tuple #[.bool true, e.key, e.val], _, K, pl, .tup [.bool true, dk, dv], _, .inr ⟨i, dk, dv, p1, p3, rfl, by rw [qF]⟩, .inl ?_, KLe.refl _, PLe.refl _, hfin, ?_⟩
   ·simp only [execOp, hop, h1]
    simp [Sem.run_bind, hrun]
   ·simp only [Rep, RepL]
    exact ⟨_, rfl, _, _, rfl, rfl, _, _, rfl, Rep.mono (KLe.refl _) (PLe.zero _) _ _ p2, _, _, rfl, Rep.mono (KLe.refl _) (PLe.zero _) _ _ p4, rfl⟩
theorem jI5 {bx : List Ent} {j : Nat} {dk dv : D} {ks vs : List D} (hj : jI bx j = some (.iter (some (dk, dv)) ks vs)) : PrM P gt .ent [.box j 0] bx (.tup [dk, dv]) bx := by
 refine PrM.of ?_
 intro F K pl w o ρ xs hF hρ hI hq hr
 obtain ⟨x, rfl, hop⟩ := jc0 (f := fun x => .entry x) (fun _ => rfl) rfl (fun _ _ _ => rfl) hq
 have h1 := Yo hr
 simp only [Rep] at h1
 rw [kG] at hj
 obtain ⟨r, g1, g2, g3⟩ := hI.tab.ok j _ hj
 obtain ⟨b0, g0, h1⟩ := h1
 rw [g1] at g0; cases g0
 rcases g3 with ⟨_, _, _, g3⟩ | ⟨m, es, clock, seen, kvs, vvs, g3, g4, g5, g6, g7, g8, g9, q1, q2⟩
 ·cases g3
 ·obtain ⟨e, he, p1, p2, p3⟩ := q2 dk dv rfl
  obtain ⟨s0, rfl⟩ := Array.back?_eq_some_iff.1 p1
  have hrun := run_entry_at (P := P) w r m clock s0 es clock e g3 (hI.mod _ _ g4) (by simpa using he) g6
  refine ⟨.tuple #[e.key, e.val], w, K, pl, .inl ?_, KLe.refl _, PLe.refl _, hI, ?_⟩
  ·simp only [execOp, hop, h1]
   simp [Sem.run_bind, hrun]
  ·simp only [Rep, RepL]
   exact ⟨_, rfl, _, _, rfl, Rep.mono (KLe.refl _) (PLe.zero _) _ _ p2, _, _, rfl, Rep.mono (KLe.refl _) (PLe.zero _) _ _ p3, rfl⟩
end
end Go.AM
