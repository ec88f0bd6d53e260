import Derived.Test.YtoaialdcgmkbgaaGreatRA14
import Derived.Test.YtoaialdcgmkbgaaGreatRA27
import Derived.Still
import Derived.RangeFuncLeaves

set_option linter.all false
namespace Go.AM
open Go Go.RowKit
def Own (pl : Pl) (bx : List Ent) (b : Nat) : Prop := ∃ k e, bx[k]? = some e /\ jW pl k e = some b
def SpM (P : Program) (gt : Nat -> Option (List D)) (f : Nat) (ds : List D) (bx : List Ent) (d : D) (bx' : List Ent) : Prop := jI9 P f /\ ∀ (K : Kn) (pl : Pl) (w : World) (vs : Array Value), (∀ b o, K b = some o -> w.heap[b]? = some o) -> GlobOk gt K -> Tab K pl w bx -> RepL K pl ds vs.toList ->
 Calls P f vs w fun e w' => ∃ v K' pl', e = .returned v /\ Inv ⟨Own pl bx, w, K, bx.length, pl, gt⟩ K' pl' bx' w' /\ Rep K' pl' d v
def PrD (P : Program) (Φ : Fr -> Prop) (q : Pr) (ds : List D) (bx : List Ent) (d : D) (bx' : List Ent) : Prop :=
 ∀ (F : Fr) (K : Kn) (pl : Pl) (w : World) (o : Oper) (ρ : Operand -> Value) (xs : List Operand), Φ F -> (∀ v, ρ (.const v) = v) -> Inv F K pl bx w -> q.op xs = some o.op -> RepL K pl ds (xs.map ρ) ->
  (∃ v w' K' pl', jy4 P o ρ w v w' /\ KLe K K' /\ PLe pl pl' /\ Inv F K' pl' bx' w' /\ Rep K' pl' d v) \/
  ∃ l f tmps assign body, (execOp ρ o).run P w = .ok (.round l f tmps assign body) w /\ RoundIn (wr none) 0 P l f tmps assign body w fun e w' => ∃ v K' pl', e = .returned v /\ KLe K K' /\ PLe pl pl' /\ Inv F K' pl' bx' w' /\ Rep K' pl' d v
def PrM (P : Program) (gt : Nat -> Option (List D)) : Pr -> List D -> List Ent -> D -> List Ent -> Prop := PrD P (fun F => F.gt = gt)
theorem PrM.of {P : Program} {gt : Nat -> Option (List D)} {q : Pr} {ds : List D} {bx bx' : List Ent} {d : D}
  (h : ∀ (F : Fr) (K : Kn) (pl : Pl) (w : World) (o : Oper) (ρ : Operand -> Value) (xs : List Operand), F.gt = gt -> (∀ v, ρ (.const v) = v) -> Inv F K pl bx w -> q.op xs = some o.op -> RepL K pl ds (xs.map ρ) ->
    ∃ v w' K' pl', jy4 P o ρ w v w' /\ KLe K K' /\ PLe pl pl' /\ Inv F K' pl' bx' w' /\ Rep K' pl' d v) : PrM P gt q ds bx d bx' := fun F K pl w o ρ xs h1 h2 h3 h4 h5 => .inl (h F K pl w o ρ xs h1 h2 h3 h4 h5)
def PrG (P : Program) (Φ : Fr -> Prop) (q : Pr) (ds : List D) (bx : List Ent) (T : D -> List Ent -> Prop) : Prop :=
 ∀ (F : Fr) (K : Kn) (pl : Pl) (w : World) (o : Oper) (ρ : Operand -> Value) (xs : List Operand), Φ F -> (∀ v, ρ (.const v) = v) -> Inv F K pl bx w -> q.op xs = some o.op -> RepL K pl ds (xs.map ρ) ->
  (∃ v w' K' pl' d bx', T d bx' /\ jy4 P o ρ w v w' /\ KLe K K' /\ PLe pl pl' /\ Inv F K' pl' bx' w' /\ Rep K' pl' d v) \/
  ∃ l f tmps assign body, (execOp ρ o).run P w = .ok (.round l f tmps assign body) w /\ RoundIn (wr none) 0 P l f tmps assign body w fun e w' => ∃ v K' pl' d bx', e = .returned v /\ T d bx' /\ KLe K K' /\ PLe pl pl' /\ Inv F K' pl' bx' w' /\ Rep K' pl' d v
def PrA (P : Program) (gt : Nat -> Option (List D)) : Pr -> List D -> List Ent -> (D -> List Ent -> Prop) -> Prop := PrG P (fun F => F.gt = gt)
theorem PrA.of {P : Program} {gt : Nat -> Option (List D)} {q : Pr} {ds : List D} {bx : List Ent} {T : D -> List Ent -> Prop}
  (h : ∀ (F : Fr) (K : Kn) (pl : Pl) (w : World) (o : Oper) (ρ : Operand -> Value) (xs : List Operand), F.gt = gt -> (∀ v, ρ (.const v) = v) -> Inv F K pl bx w -> q.op xs = some o.op -> RepL K pl ds (xs.map ρ) ->
    ∃ v w' K' pl' d bx', T d bx' /\ jy4 P o ρ w v w' /\ KLe K K' /\ PLe pl pl' /\ Inv F K' pl' bx' w' /\ Rep K' pl' d v) : PrA P gt q ds bx T := fun F K pl w o ρ xs h1 h2 h3 h4 h5 => .inl (h F K pl w o ρ xs h1 h2 h3 h4 h5)
structure FLe (F F' : Fr) : Prop where
 K : KLe F.K F'.K
 n0 : F.n0 <= F'.n0
 pl : ∀ k ver x, k < F.n0 -> F.pl k ver = some x -> F'.pl k ver = some x
 gt : F'.gt = F.gt
theorem FLe.refl (F : Fr) : FLe F F := ⟨KLe.refl _, Nat.le_refl _, fun _ _ _ _ h => h, rfl⟩
theorem FLe.trans {F F' F'' : Fr} (h : FLe F F') (h' : FLe F' F'') : FLe F F'' := ⟨h.K.trans h'.K, Nat.le_trans h.n0 h'.n0, fun k ver x hk hx => h'.pl k ver x (Nat.lt_of_lt_of_le hk h.n0) (h.pl k ver x hk hx), h'.gt.trans h.gt⟩
def QD (S : Nat -> List Ent) (m n : Nat) (bs : List Ent) : List Ent := if m < n then bs else S m
def jX8 (P : Program) (gt : Nat -> Option (List D)) (f : Nat) (caps : List D) (xs : List (List D)) (Kp : List Ent -> Prop) : Prop := jI9 P f /\
 ∀ (y m : Nat) (S : Nat -> List Ent) (bs bx : List Ent) (K : Kn) (pl : Pl) (w : World) (vs : Array Value), (∀ b o, K b = some o -> w.heap[b]? = some o) -> GlobOk gt K -> Tab K pl w bx -> RepL K pl (.yld y :: caps) vs.toList ->
  S 0 = bx -> m <= xs.length -> y < bx.length -> (∀ i, i <= m -> (S i).length = bx.length /\ k8 bx.length (S i) = true /\ ∃ b0 o, S i = jX b0 (.obj o) /\ Kp b0) -> bs.length = bx.length -> k8 bx.length bs = true ->
  (∀ i x, i < m -> xs[i]? = some x -> ∀ ts, PrD P (FLe ⟨Own pl bx, w, K, bx.length, pl, gt⟩) (.yld ts) (.yld y :: x) (S i) (.bool true) (S (i + 1))) ->
  (∀ x, xs[m]? = some x -> ∀ ts, PrD P (FLe ⟨Own pl bx, w, K, bx.length, pl, gt⟩) (.yld ts) (.yld y :: x) (S m) (.bool false) bs) ->
  Calls P f vs w fun e w' => ∃ v K' pl', e = .returned v /\ Inv ⟨Own pl bx, w, K, bx.length, pl, gt⟩ K' pl' (QD S m xs.length bs) w'
def jX6 (P : Program) (gt : Nat -> Option (List D)) (Φ : Fr -> Prop) : CallP := ⟨SpM P gt, PrD P Φ, PrG P Φ, jX8 P gt⟩
def jE6 (P : Program) (gt : Nat -> Option (List D)) : CallP := jX6 P gt (fun F => F.gt = gt)
def Sp (P : Program) (gt : Nat -> Option (List D)) (f : Nat) (ds : List D) (d : D) : Prop := SpM P gt f ds [] d []
theorem Inv.then {F : Fr} {K K' : Kn} {pl pl' : Pl} {bx bx' : List Ent} {w w' : World} (h : Inv F K pl bx w) (h' : Inv ⟨Own pl bx, w, K, bx.length, pl, F.gt⟩ K' pl' bx' w') : KLe K K' /\ PLe pl pl' /\ Inv F K' pl' bx' w' := by
 have hsz := h.chg.size
 have hown : ∀ b, Own pl bx b -> F.S b \/ F.w.heap.size <= b := fun b ⟨k, e, hk, hb⟩ => h.own k e b hk hb
 have hp : PLe pl pl' := fun k ver x hx => by
  by_cases hlt : k < bx.length
  ·exact h'.keep k ver x hlt hx
  ·rw [h.tab.free k ver (by omega)] at hx; cases hx
 refine ⟨h'.le, hp, h.chg.trans h'.chg fun b hb hs => ?_, h'.mod, h.le.trans h'.le, fun b o hb => ?_, h'.tab, fun k e b hk hb => ?_, Nat.le_trans h.len h'.len, fun k ver x hk hx => hp _ _ _ (h.keep k ver x hk hx), h'.glob⟩
 ·rcases hown b hs with h1 | h1
  ·exact h1
  ·omega
 ·rcases h'.new b o hb with h1 | h1 | h1
  ·exact h.new b o h1
  ·exact .inr (hown b h1)
  ·exact .inr (.inr (Nat.le_trans hsz h1))
 ·rcases h'.own k e b hk hb with h1 | h1
  ·exact hown b h1
  ·exact .inr (Nat.le_trans hsz h1)
def kq9 (P : Program) (gt : Nat -> Option (List D)) (Φ : Fr -> Prop) (nt : Nat) (ops : Array Oper) (i : Nat) (o' : O) (g : G) (env : x4) (bx : List Ent) (d : D) (bx' : List Ent) : Prop :=
 ∀ (F : Fr) (K : Kn) (pl : Pl) (w : World) (a : Act), F.gt = gt /\ Φ F -> Inv F K pl bx w -> a.tmps.size = nt -> (∀ s ∈ Jq o'.m ++ js6 g, SlotOk K pl env a s) -> ∀ (next : Act -> World -> Prop) (Q : Exit -> Act -> World -> Prop),
  (∀ v w' K' pl', KLe K K' -> PLe pl pl' -> Inv F K' pl' bx' w' -> (qo a g -> Rep K' pl' d v) -> (¬ qo a g -> v = undef) -> next (a.put o'.dst v) w') -> vM P ops Q i next a w
theorem xR {P : Program} {nt : Nat} {ops : Array Oper} {o : Oper} {o' : O} (h : Y3 P nt ops o o' = some o'.bare) : ju8 P o.type o.op o'.m = some o'.m.bare /\ o'.dst = o.dst /\ (∀ d, o.dst = some d -> d < nt) /\
  (match o.guard with | none => o'.g = none | some (j, pol) => ∃ s, (ops[j]?).bind (·.dst) = some s /\ o'.g = some (s, pol)) := by
 obtain ⟨od, og, om⟩ := o'
 unfold Y3 at h
 split at h
 ·rename_i m g hm hok hg
  simp only [O.bare, Option.some.injEq, O.mk.injEq] at h
  obtain ⟨rfl, rfl, rfl, _⟩ := h
  refine ⟨hm, rfl, fun d hd => ?_, ?_⟩
  ·rw [hd] at hok; simpa [kM4] using hok
  ·cases ho : o.guard with
   | none => rw [ho] at hg; simp [kB0] at hg; exact hg.symm
   | some jp =>
     obtain ⟨j, pol⟩ := jp
     rw [ho] at hg
     simp only [kB0] at hg
     split at hg
     ·rename_i s hs; cases hg; exact ⟨s, hs, rfl⟩
     ·cases hg
 ·cases h
theorem kk2 {op : BinOp} {k : IntKind} {x y : Int} {bx : List Ent} {p : List Prop} {d : D} {bx' : List Ent} (h : ko op k x y bx = .ok p d bx') : bx' = bx := by
 cases op <;> simp [ko] at h <;> exact h.2.2.symm
def kM7 : M -> Bool
 | .prm .. => true
 | _ => false
def kz1 : M -> Bool
 | .call .. | .callv .. => true
 | _ => false
section
variable {gt : Nat -> Option (List D)} {m : M} {g : G} {env : x4} {bx : List Ent}
theorem kt0 {p : List Prop} {d : D} {bx' : List Ent} (h : jl gt m g env bx = .ok p d bx') : bx' = bx \/ (g = [] /\ qd m = true) := by
 cases m <;> simp only [jl] at h
 case prm nd e q' xs => (repeat' (split at h)) <;> cases h
 case callK l f xs => split at h <;> cases h
 case callC f xs => split at h <;> cases h
 case callN n f xs => split at h <;> cases h
 case callR l f xs => split at h <;> cases h
 case nilF => simp at h; exact .inl h.2.2.symm
 case mv fz x =>
  split at h
  ·simp at h; exact .inl h.2.2.symm
  ·right; simp [qd]
  ·cases h
 case pick c a b =>
  cases c with
  | c => simp at h
  | t s =>
    simp only [kg] at h
    split at h
    ·split at h <;> simp at h; exact .inl h.2.2.symm
    ·split at h <;> simp at h; exact .inl h.2.2.symm
    ·cases h
 case alloc => split at h <;> simp_all [qd]
 case box => split at h <;> simp_all [qd]
 case ld n x =>
  left
  cases hx : jL env g x with
  | none => simp [hx, ju] at h
  | some d0 =>
    rw [hx] at h
    cases d0 <;> simp only [ju] at h <;> try (cases h; done)
    all_goals (split at h <;> first | (cases h; done) | (split at h <;> simp at h; exact h.2.2.symm))
 case st => split at h <;> simp_all [qd]
 case fld => split at h <;> simp at h <;> exact .inl h.2.2.symm
 case ixs sz x i =>
  left
  cases hx : jL env g x with
  | none => simp [hx, j6] at h
  | some d0 =>
    cases hy : jL env g i with
    | none => rw [hx, hy] at h; cases d0 <;> simp [j6] at h
    | some d1 =>
      rw [hx, hy] at h
      cases d0 <;> try (simp [j6] at h; done)
      all_goals (cases d1 <;> simp only [j6] at h <;> first | (cases h; done) | (simp at h; exact h.2.2.symm) | (split at h <;> simp at h; exact h.2.2.symm))
 case ixa len sz x i =>
  left
  cases hx : jL env g x with
  | none => simp [hx, vp] at h
  | some d0 =>
    cases hy : jL env g i with
    | none => rw [hx, hy] at h; cases d0 <;> simp [vp] at h
    | some d1 =>
      rw [hx, hy] at h
      cases d0 <;> try (simp [vp] at h; done)
      all_goals (cases d1 <;> simp [vp] at h; exact h.2.2.symm)
 case part => split at h <;> try (cases h; done)
              split at h <;> simp at h; exact .inl h.2.2.symm
 case ixv => split at h <;> cases h
 case sidx => split at h <;> simp at h; exact .inl h.2.2.symm
 case bld => split at h <;> try (cases h; done)
             split at h <;> simp at h; exact .inl h.2.2.symm
 case bsl =>
  split at h
  ·split at h <;> simp at h; exact .inl h.2.2.symm
  ·right; simp [qd]
  ·right; simp [qd]
  ·cases h
 case bin => split at h <;> try (cases h; done)
             split at h <;> try (cases h; done)
             ·exact .inl (kk2 h)
             ·exact .inl (kk2 h)
 case cat => split at h <;> simp at h; exact .inl h.2.2.symm
 case eqb => split at h <;> simp at h <;> exact .inl h.2.2.symm
 case eqS => split at h <;> try (cases h; done)
             split at h <;> simp at h; exact .inl h.2.2.symm
 case not => split at h <;> simp at h; exact .inl h.2.2.symm
 case neg => split at h <;> try (cases h; done)
             split at h <;> simp at h; exact .inl h.2.2.symm
 case conv => split at h <;> simp at h; exact .inl h.2.2.symm
 case cvw => split at h <;> simp at h; exact .inl h.2.2.symm
 case b2s => split at h <;> first | (cases h; done) | (split at h <;> cases h)
 case len str x =>
  left
  cases hx : jL env g x with
  | none => simp [hx, kz] at h
  | some d0 =>
    rw [hx] at h
    cases d0 <;> cases str <;> simp only [kz] at h <;> first | (cases h; done) | (simp at h; exact h.2.2.symm) | (split at h <;> simp at h; exact h.2.2.symm)
 case mx => split at h <;> simp at h; exact .inl h.2.2.symm
 case mn => split at h <;> simp at h; exact .inl h.2.2.symm
 case call => split at h <;> cases h
 case callv => split at h <;> cases h
 case clo => split at h <;> simp at h; exact .inl h.2.2.symm
 case nilS => split at h <;> simp_all [qd]
 case mks =>
  right
  split at h
  ·simp [qd]
  ·cases h
 case app => split at h <;> simp_all [qd]
 case cpy => split at h <;> simp_all [qd]
 case sls eff sz x lo hi =>
  cases hx : jL env g x with
  | none => simp [hx, zT] at h
  | some d0 =>
    rw [hx] at h
    cases d0 <;> simp only [zT] at h <;> try (cases h; done)
    ·split at h <;> simp at h; exact .inl h.2.2.symm
    ·split at h <;> simp at h; exact .inl h.2.2.symm
    ·split at h
     ·right; simp [qd]
     ·cases h
 case sst x lo hi =>
  left
  cases hx : jL env g x with
  | none => simp [hx, xV] at h
  | some d0 =>
    rw [hx] at h
    cases d0 <;> simp only [xV] at h <;> first | (cases h; done) | (split at h <;> simp at h; exact h.2.2.symm)
 case sla len sz x lo hi =>
  left
  cases hx : jL env g x with
  | none => simp [hx, xW] at h
  | some d0 =>
    rw [hx] at h
    cases d0 <;> simp only [xW] at h <;> first | (cases h; done) | (split at h <;> simp at h; exact h.2.2.symm)
 case ext => split at h <;> try (cases h; done)
             split at h <;> simp at h; exact .inl h.2.2.symm
 case chk => split at h <;> try (cases h; done)
             split at h <;> simp at h; exact .inl h.2.2.symm
def kT2 : Res -> Bool
 | .bad | .ok .. | .row .. | .arr .. | .ask .. | .put .. => true
 | _ => false
def kT3 : M -> Bool
 | .call .. | .callv .. | .prm .. | .callK .. | .callC .. | .callN .. | .callR .. => false
 | _ => true
theorem kC5 {op : BinOp} {k : IntKind} {x y : Int} : kT2 (ko op k x y bx) = true := by cases op <;> rfl
theorem kl7 (hm : kT3 m = true) : kT2 (jl gt m g env bx) = true := by
 cases m <;> first | (cases hm; done) | skip
 all_goals simp only [jl]
 case pick c a b => cases c <;> (try simp only [kg]) <;> (repeat' split) <;> rfl
 case ld n x => generalize jL env g x = a; rcases a with _ | d <;> (try cases d) <;> (try simp only [ju]) <;> (repeat' split) <;> rfl
 case st n x y =>
  split <;> first | rfl | skip
  generalize jL env [] x = a; generalize jL env [] y = b
  rcases a with _ | d <;> rcases b with _ | e <;> (try cases d) <;> (try simp only [jJ]) <;> (repeat' split) <;> rfl
 case ixs sz x y =>
  generalize jL env g x = a; generalize jL env g y = b
  rcases a with _ | d <;> rcases b with _ | e <;> (try cases d) <;> (try cases e) <;> (try simp only [j6]) <;> (repeat' split) <;> rfl
 case ixa n sz x y =>
  generalize jL env g x = a; generalize jL env g y = b
  rcases a with _ | d <;> rcases b with _ | e <;> (try cases d) <;> (try cases e) <;> (try simp only [vp]) <;> (repeat' split) <;> rfl
 case bin op k x y => (repeat' split) <;> first | exact kC5 | rfl
 case len str x => generalize jL env g x = a; cases str <;> rcases a with _ | d <;> (try cases d) <;> (try simp only [kz]) <;> (repeat' split) <;> rfl
 case app e sz n x y =>
  split <;> first | rfl | skip
  generalize jL env [] x = a; generalize jL env [] y = b
  rcases a with _ | d <;> rcases b with _ | e <;> (try cases d) <;> (try cases e) <;> (try simp only [qg]) <;> (repeat' split) <;> rfl
 case cpy e sz x y =>
  split <;> first | rfl | skip
  generalize jL env [] x = a; generalize jL env [] y = b
  rcases a with _ | d <;> rcases b with _ | e <;> (try cases d) <;> (try cases e) <;> (try simp only [xX]) <;> (repeat' split) <;> rfl
 case sls eff sz x lo hi => generalize jL env g x = a; rcases a with _ | d <;> (try cases d) <;> (try simp only [zT]) <;> (repeat' split) <;> rfl
 case sst x lo hi => generalize jL env g x = a; rcases a with _ | d <;> (try cases d) <;> (try simp only [xV]) <;> (repeat' split) <;> rfl
 case sla n sz x lo hi => generalize jL env g x = a; rcases a with _ | d <;> (try cases d) <;> (try simp only [xW]) <;> (repeat' split) <;> rfl
 case box isA x => (repeat' split) <;> first | rfl | (rename_i dd _; cases kj dd <;> rfl)
 all_goals ((repeat' split) <;> rfl)
theorem Xp {r : Res} (h : jl gt m g env bx = r) (hr : kT2 r = false) : kT3 m = false := by
 cases hm : kT3 m with
 | false => rfl
 | true => have := kl7 (gt := gt) (g := g) (env := env) (bx := bx) hm; rw [h, hr] at this; cases this
theorem jZ0 {p : List Prop} {eff : Bool} {f : Nat} {ds : List D} (h : jl gt m g env bx = .call p eff f ds) : eff = true -> g = [] /\ qd m = true := by
 have hl := Xp h rfl
 cases m <;> first | (cases hl; done) | skip
 all_goals simp only [jl] at h
 case call =>
  split at h <;> simp at h
  ·intro e; rw [h.2.1] at e; cases e
  ·intro _; simp [qd]
 case callv =>
  split at h <;> simp at h
  ·intro e; rw [h.2.1] at e; cases e
  ·intro _; simp [qd]
 all_goals ((repeat' (split at h)) <;> cases h)
theorem jz2 {p : List Prop} {eff : Bool} {q : Pr} {ds : List D} (h : jl gt m g env bx = .prm p eff q ds) : (eff = true -> qd m = true /\ kD env g = true) /\ kM7 m = true := by
 have hl := Xp h rfl
 cases m <;> first | (cases hl; done) | skip
 all_goals simp only [jl] at h
 case prm nd e q' xs =>
  split at h
  ·simp at h; refine ⟨fun e => ?_, rfl⟩; rw [h.2.1] at e; cases e
  ·split at h
   ·rename_i hk; exact ⟨fun _ => ⟨rfl, hk⟩, rfl⟩
   ·cases h
  ·cases h
  ·cases h
 all_goals ((repeat' (split at h)) <;> cases h)
theorem jz3 {p : List Prop} {q : Pr} {ds : List D} (h : jl gt m g env bx = .all p q ds) : (g = [] /\ qd m = true) /\ ndM m = true := by
 have hl := Xp h rfl
 cases m <;> first | (cases hl; done) | skip
 all_goals simp only [jl] at h
 case prm nd e q' xs =>
  split at h
  ·cases h
  ·split at h <;> cases h
  ·exact ⟨⟨rfl, rfl⟩, rfl⟩
  ·cases h
 all_goals ((repeat' (split at h)) <;> cases h)
theorem jg0 {p : List Prop} {l : List Nat} {f : Nat} {ds : List D} (h : jl gt m g env bx = .callK p l f ds) : (g = [] /\ qd m = true) /\ ∃ xs, m = .callK l f xs := by
 have hl := Xp h rfl
 cases m <;> first | (cases hl; done) | skip
 all_goals simp only [jl] at h
 case callK l' f' xs =>
  split at h <;> simp at h
  obtain ⟨_, rfl, rfl, _⟩ := h
  exact ⟨⟨rfl, rfl⟩, _, rfl⟩
 all_goals ((repeat' (split at h)) <;> cases h)
theorem jf9 {p : List Prop} {u f : Nat} {ds : List D} (h : jl gt m g env bx = .callN p u f ds) : (g = [] /\ qd m = true) /\ ∃ xs, m = .callN u f xs := by
 have hl := Xp h rfl
 cases m <;> first | (cases hl; done) | skip
 all_goals simp only [jl] at h
 case callN n' f' xs =>
  split at h <;> simp at h
  obtain ⟨_, rfl, rfl, _⟩ := h
  exact ⟨⟨rfl, rfl⟩, _, rfl⟩
 all_goals ((repeat' (split at h)) <;> cases h)
theorem jO3 {p : List Prop} {l : List Nat} {f : Nat} {ds : List D} (h : jl gt m g env bx = .callR p l f ds) : ∃ xs, m = .callR l f xs := by
 have hl := Xp h rfl
 cases m <;> first | (cases hl; done) | skip
 all_goals simp only [jl] at h
 case callR l' f' xs =>
  split at h <;> simp at h
  obtain ⟨_, rfl, rfl, _⟩ := h
  exact ⟨_, rfl⟩
 all_goals ((repeat' (split at h)) <;> cases h)
theorem jz1 {p : List Prop} {Q : List D -> Prop} {d : D} {mk : List D -> List Ent} (h : jl gt m g env bx = .put p Q d mk) : g = [] /\ qd m = true := by
 cases m <;> simp only [jl] at h
 case st n x y => split at h <;> first | (cases h; done) | exact ⟨rfl, rfl⟩
 case pick c a b => cases c <;> simp only [kg] at h <;> (repeat' (split at h)) <;> cases h
 case ld n x => cases hx : jL env g x with
  | none => simp [hx, ju] at h
  | some d0 => rw [hx] at h; cases d0 <;> simp only [ju] at h <;> (repeat' (split at h)) <;> cases h
 case ixs sz x y => cases hx : jL env g x with
          | none => rw [hx] at h; simp [j6] at h
          | some d0 => cases hy : jL env g y with
            | none => rw [hx, hy] at h; cases d0 <;> simp [j6] at h
            | some d1 => rw [hx, hy] at h; cases d0 <;> cases d1 <;> simp only [j6] at h <;> (repeat' (split at h)) <;> cases h
 case ixa n sz x y => cases hx : jL env g x with
          | none => rw [hx] at h; simp [vp] at h
          | some d0 => cases hy : jL env g y with
            | none => rw [hx, hy] at h; cases d0 <;> simp [vp] at h
            | some d1 => rw [hx, hy] at h; cases d0 <;> cases d1 <;> simp only [vp] at h <;> (repeat' (split at h)) <;> cases h
 case bin op k x y =>
  have hb : ∀ k a b, ko op k a b bx ≠ .put p Q d mk := fun k a b => by cases op <;> simp [ko]
  (repeat' (split at h)) <;> first | exact absurd h (hb _ _ _) | cases h
 case len str x => cases hx : jL env g x with
  | none => rw [hx] at h; cases str <;> simp [kz] at h
  | some d0 => rw [hx] at h; cases d0 <;> cases str <;> simp only [kz] at h <;> (repeat' (split at h)) <;> cases h
 case app e sz n x y => split at h <;> first | (cases h; done) | exact ⟨rfl, rfl⟩
 case cpy e sz x y => split at h <;> first | (cases h; done) | exact ⟨rfl, rfl⟩
 case sls eff sz x lo hi => cases hx : jL env g x with
  | none => rw [hx] at h; simp [zT] at h
  | some d0 => rw [hx] at h; cases d0 <;> simp only [zT] at h <;> (repeat' (split at h)) <;> cases h
 case sst x lo hi => cases hx : jL env g x with
  | none => rw [hx] at h; simp [xV] at h
  | some d0 => rw [hx] at h; cases d0 <;> simp only [xV] at h <;> (repeat' (split at h)) <;> cases h
 case sla n sz x lo hi => cases hx : jL env g x with
  | none => rw [hx] at h; simp [xW] at h
  | some d0 => rw [hx] at h; cases d0 <;> simp only [xW] at h <;> (repeat' (split at h)) <;> cases h
 case box isA x =>
  (repeat' (split at h)) <;> first | (cases h; done) | (rename_i dd _; cases ho : kj dd <;> simp [ho] at h)
 all_goals ((repeat' (split at h)) <;> cases h)
theorem jO4 {p : List Prop} {eff : Bool} {f : Nat} {ds : List D} (h : jl gt m g env bx = .call p eff f ds) : kz1 m = true := by
 have hl := Xp h rfl
 cases m <;> first | (cases hl; done) | skip
 all_goals simp only [jl] at h
 case call => rfl
 case callv => rfl
 all_goals ((repeat' (split at h)) <;> cases h)
theorem jK0 {o : O} {l : List Nat} (h : QB o = some l) : qd o.m = false /\ kz1 o.m = false /\ kM7 o.m = false := by
 obtain ⟨dst, og, m, fp⟩ := o
 cases m <;> simp only [QB, jA9] at h <;> first | (cases h; done) | exact ⟨rfl, rfl, rfl⟩ | skip
 case mv fz x => cases fz <;> simp at h; exact ⟨rfl, rfl, rfl⟩
 case bsl mode e sz n xs => cases mode <;> simp at h; exact ⟨rfl, rfl, rfl⟩
 case sls eff sz x lo hi => cases eff <;> simp at h; exact ⟨rfl, rfl, rfl⟩
def Res.at (bx : List Ent) : Res -> Res
 | .ok p d _ => .ok p d bx
 | r => r
def kV5 (l : List Nat) (bx bx2 : List Ent) : Prop := ∀ k ∈ l, jI bx k = jI bx2 k
theorem z1 {l r : List Nat} : zm l r = true ↔ ∀ x ∈ l, x ∈ r := by
 have hm : ∀ {r : List Nat} {x : Nat}, zu r x = true ↔ x ∈ r := by
  intro r x
  induction r with
  | nil => simp [zu]
  | cons y r ih => simp only [zu, yw, ih, List.mem_cons, beq_iff_eq]; constructor <;> (rintro (h | h); exact .inl h.symm; exact .inr h)
 induction l with
 | nil => simp [zm]
 | cons x l ih => simp only [zm, qw, hm, ih]; simp
theorem jY8 (h : jA9 m = true) (bx2 : List Ent) : jl gt m g env bx2 = (jl gt m g env bx).at bx2 := by
 cases m <;> simp only [jA9] at h <;> first | (cases h; done) | skip
 case mv fz x => cases fz <;> first | (cases h; done) | skip
                 simp only [jl]; generalize jL env g x = a; cases a <;> rfl
 case pick c a b =>
  cases c with
  | c => rfl
  | t s =>
    simp only [jl]
    unfold kg
    split <;> first | rfl | (split <;> rfl)
 case nilF => rfl
 case callC f xs => simp only [jl]; generalize kq env g xs = a; cases a <;> rfl
 case fld off x => simp only [jl]; generalize jL env g x = a; rcases a with _ | d <;> first | rfl | (cases d <;> rfl)
 case ixa len sz x i =>
  simp only [jl]; generalize jL env g x = a; generalize jL env g i = b
  rcases a with _ | d <;> first | rfl | (cases d <;> first | rfl | (rcases b with _ | e <;> first | rfl | (cases e <;> rfl)))
 case part off n x =>
  simp only [jl]; generalize jL env g x = a
  rcases a with _ | d <;> first | rfl | (cases d <;> first | rfl | skip)
  rename_i l; simp only; cases jC l off n <;> rfl
 case ixv len sz n x i =>
  simp only [jl]; generalize jL env g x = a; generalize jL env g i = b
  rcases a with _ | d <;> first | rfl | (cases d <;> first | rfl | (rcases b with _ | e <;> first | rfl | (cases e <;> rfl)))
 case sidx x i =>
  simp only [jl]; generalize jL env g x = a; generalize jL env g i = b
  rcases a with _ | d <;> first | rfl | (cases d <;> first | rfl | (rcases b with _ | e <;> first | rfl | (cases e <;> rfl)))
 case bld z parts =>
  simp only [jl]; generalize kq env g (kT parts) = a
  rcases a with _ | ds <;> first | rfl | skip
  simp only; cases qB z parts ds <;> rfl
 case bsl mode e sz n xs =>
  cases mode <;> first | (cases h; done) | skip
  simp only [jl]; generalize kq env g xs = a
  rcases a with _ | ds <;> first | rfl | skip
  simp only; cases bA (jV ds) (ql n ds) <;> rfl
 case sls eff sz x lo hi =>
  cases eff <;> first | (cases h; done) | skip
  simp only [jl]; generalize jL env g x = a; generalize jx7 env g 0 lo = p
  rcases a with _ | d <;> first | rfl | (cases d <;> first | rfl | skip)
  ·rename_i sz' l
   simp only [zT]; generalize jx7 env g _ hi = q
   cases p <;> first | rfl | (cases q <;> rfl)
  ·rename_i k base sz' len
   simp only [zT]; generalize jx7 env g _ hi = q
   cases p <;> first | rfl | (cases q <;> rfl)
 case bin op k x y =>
  simp only [jl]; generalize jL env g x = a; generalize jL env g y = b
  rcases a with _ | d <;> first | rfl | (cases d <;> first | rfl | (rcases b with _ | e <;> first | rfl | (cases e <;> first | rfl | skip)))
  rename_i k1 n1 k2 n2
  simp only; cases kU k k1 <;> cases kU k k2 <;> cases jR op <;> first | rfl | (cases op <;> rfl)
 case cat x y =>
  simp only [jl]; generalize jL env g x = a; generalize jL env g y = b
  rcases a with _ | d <;> first | rfl | (cases d <;> first | rfl | (rcases b with _ | e <;> first | rfl | (cases e <;> rfl)))
 case eqb neg str x y =>
  simp only [jl]; generalize jL env g x = a; generalize jL env g y = b
  cases str <;> (rcases a with _ | d <;> first | rfl | (cases d <;> first | rfl | (rcases b with _ | e <;> first | rfl | (cases e <;> rfl))))
 case eqS neg ks x y =>
  simp only [jl]; generalize jL env g x = a; generalize jL env g y = b
  rcases a with _ | d <;> first | rfl | (cases d <;> first | rfl | (rcases b with _ | e <;> first | rfl | (cases e <;> first | rfl | skip)))
  rename_i l1 l2; simp only; cases jV6 ks l1 l2 <;> rfl
 case not x => simp only [jl]; generalize jL env g x = a; rcases a with _ | d <;> first | rfl | (cases d <;> rfl)
 case neg k x => simp only [jl]; generalize jL env g x = a; rcases a with _ | d <;> first | rfl | (cases d <;> first | rfl | skip)
                 rename_i k1 n; simp only; cases kU k k1 <;> rfl
 case conv k x => simp only [jl]; generalize jL env g x = a; rcases a with _ | d <;> first | rfl | (cases d <;> rfl)
 case cvw k x => simp only [jl]; generalize jL env g x = a; rcases a with _ | d <;> first | rfl | (cases d <;> rfl)
 case mx x y =>
  simp only [jl]; generalize jL env g x = a; generalize jL env g y = b
  rcases a with _ | d <;> first | rfl | (cases d <;> first | rfl | (rcases b with _ | e <;> first | rfl | (cases e <;> rfl)))
 case mn x y =>
  simp only [jl]; generalize jL env g x = a; generalize jL env g y = b
  rcases a with _ | d <;> first | rfl | (cases d <;> first | rfl | (rcases b with _ | e <;> first | rfl | (cases e <;> rfl)))
 case clo f xs => simp only [jl]; generalize kq env g xs = a; cases a <;> rfl
 case sst x lo hi =>
  simp only [jl]; generalize jL env g x = a; generalize jx7 env g 0 lo = b
  rcases a with _ | d <;> first | rfl | (cases d <;> first | rfl | skip)
  rename_i s; simp only [xV]; generalize jx7 env g _ hi = c; cases b <;> cases c <;> rfl
 case sla len sz x lo hi =>
  simp only [jl]; generalize jL env g x = a; generalize jx7 env g 0 lo = b; generalize jx7 env g len hi = c
  rcases a with _ | d <;> first | rfl | (cases d <;> first | rfl | (cases b <;> cases c <;> rfl))
 case ext x i =>
  simp only [jl]; generalize jL env g x = a
  rcases a with _ | d <;> first | rfl | (cases d <;> first | rfl | skip)
  rename_i l; simp only; cases kL l i <;> rfl
 case chk x =>
  simp only [jl]; generalize jL env g x = a
  rcases a with _ | d <;> first | rfl | skip
  simp only; cases ZC d <;> rfl
theorem jY9 {o : O} {l : List Nat} (h : QB o = some l) (hf : jA o.fp o.m g env bx = true) {bx2 : List Ent} (ha : kV5 l bx bx2) : jl gt o.m g env bx2 = (jl gt o.m g env bx).at bx2 := by
 cases hp : jA9 o.m with
 | true => exact jY8 hp bx2
 | false =>
   obtain ⟨dst, og, m, fp⟩ := o
   simp only [QB, hp] at h
   cases m <;> first | (cases h; done) | skip
   case callR l' f xs => simp only [jl]; generalize kq env g xs = a; cases a <;> rfl
   case ld n x =>
    simp only at h
    subst h
    simp only [jA, zb] at hf
    simp only [jl]
    generalize jL env g x = a at *
    rcases a with _ | d <;> first | rfl | skip
    cases d <;> first | rfl | skip
    case box k off =>
     have := ha k (z1.1 hf k (by simp))
     simp only [ju, <- this]
     split <;> first | rfl | (split <;> rfl)
    case boxi k off =>
     have := ha k (z1.1 hf k (by simp))
     simp only [ju, <- this]
     split <;> rfl
    case glob k off => simp only [ju]; split <;> rfl
    case elo k v s i off =>
     have := ha k (z1.1 hf k (by simp))
     simp only [ju, <- this]
     split <;> rfl
   case ixs sz x i =>
    simp only at h
    subst h
    simp only [jA, zb] at hf
    simp only [jl]
    generalize jL env g x = a at *
    generalize jL env g i = b at *
    rcases a with _ | d <;> first | rfl | skip
    cases d <;> first | rfl | (rcases b with _ | e <;> first | rfl | (cases e <;> first | rfl | skip))
    rename_i k ver k2 n2
    have := ha k (z1.1 hf k (by simp))
    simp only [j6, <- this]
    split <;> rfl
   case len str x =>
    simp only at h
    subst h
    simp only [jA, zb] at hf
    simp only [jl]
    generalize jL env g x = a at *
    rcases a with _ | d <;> cases str <;> first | rfl | skip
    ·cases d <;> first | rfl | skip
     rename_i k ver
     have := ha k (z1.1 hf k (by simp))
     simp only [kz, <- this]
     split <;> rfl
    ·cases d <;> rfl
end
end Go.AM
set_option linter.all false
namespace Go.AM
open Go Go.RowKit
theorem xf {dst : Option Nat} {og : Option G} {g : G} (h : jj dst og = some g) : og = some g /\ jk g dst = true := by
 unfold jj at h
 split at h
 ·cases h
 ·split at h
  ·rename_i g' hn; cases h; exact ⟨rfl, hn⟩
  ·cases h
def kf0 (P : Program) (gt : Nat -> Option (List D)) (Φ : Fr -> Prop) (hs : List Prop) (bx : List Ent) (d : D) (bx' : List Ent) : Res -> Prop
 | .bad => False
 | .ok p d0 bx0 => (∀ q ∈ jP hs p, q) /\ d = d0 /\ bx' = bx0
 | .call p eff f ds => (∀ q ∈ jP hs p, q) /\ km hs (SpM P gt f ds bx d bx') /\ (eff = false -> bx' = bx)
 | .row p l i off n => (∀ q ∈ jP hs p, q) /\ (∃ d1, km hs (l[i]? = some d1) /\ Xl d1 off n = some d) /\ bx' = bx
 | .arr p l i n => (∀ q ∈ jP hs p, q) /\ km hs (jC l i n = some d) /\ bx' = bx
 | .ask p Q => (∀ q ∈ jP hs p, q) /\ km hs (Q d) /\ bx' = bx
 | .put p Q d0 mk => (∀ q ∈ jP hs p, q) /\ d = d0 /\ ∃ l', km hs (Q l') /\ bx' = mk l'
 | .prm p eff q ds => (∀ q ∈ jP hs p, q) /\ km hs (PrD P Φ q ds bx d bx') /\ (eff = false -> bx' = bx) /\ (jo7 hs -> bx' = bx)
 | .callK p l f ds => (∀ q ∈ jP hs p, q) /\ SpM P gt f ds bx d bx' /\ Kept l bx bx'
 | .callC p f ds => (∀ q ∈ jP hs p, q) /\ km hs (∀ bx, SpM P gt f ds bx d bx) /\ bx' = bx
 | .callN p n f ds => (∀ q ∈ jP hs p, q) /\ SpM P gt f ds bx d bx'
 | .callR p l f ds => (∀ q ∈ jP hs p, q) /\ km hs (∀ bx2, AgrN l bx bx2 -> SpM P gt f ds bx2 d bx2) /\ bx' = bx
 | .all _ _ _ => False
def Xtra (P : Program) (gt : Nat -> Option (List D)) (bx : List Ent) (d : D) (bx' : List Ent) : Res -> Prop
 | .callN _ n f ds => (∀ t, SpM P gt f ds (bx ++ (qp n ++ t)) d (bx' ++ t)) /\ ∃ es, bx' = bx ++ es /\ es.length = n
 | _ => True
theorem kK3 {P : Program} {gt : Nat -> Option (List D)} {Φ : Fr -> Prop} {R : St -> Prop} {hs : List Prop} {dst : Option Nat} {g : G} {st : St} : ∀ {r : Res}, (∀ p q ds, r ≠ .all p q ds) -> jD3 (jX6 P gt Φ) R hs dst g st r -> ∃ d bx', kf0 P gt Φ hs st.bx d bx' r /\ R ⟨jw dst g d st.env, bx'⟩ /\ Xtra P gt st.bx d bx' r
 | .bad, _, h => h.elim
 | .ok p d bx, _, h => by obtain ⟨h1, h2⟩ := qE h; exact ⟨d, bx, ⟨h1, rfl, rfl⟩, h2, trivial⟩
 | .call p eff f ds, _, h => by obtain ⟨h1, d, bx', h2, h3, h4⟩ := qE h; exact ⟨d, bx', ⟨h1, h2, h3⟩, h4, trivial⟩
 | .row p l i off n, _, h => by obtain ⟨h1, d, d', h2, h3, h4⟩ := qE h; exact ⟨d', _, ⟨h1, ⟨d, h2, h3⟩, rfl⟩, h4, trivial⟩
 | .arr p l i n, _, h => by obtain ⟨h1, d, h2, h4⟩ := qE h; exact ⟨d, _, ⟨h1, h2, rfl⟩, h4, trivial⟩
 | .ask p Q, _, h => by obtain ⟨h1, d, h2, h4⟩ := qE h; exact ⟨d, _, ⟨h1, h2, rfl⟩, h4, trivial⟩
 | .put p Q d mk, _, h => by obtain ⟨h1, l', h2, h4⟩ := qE h; exact ⟨d, _, ⟨h1, rfl, l', h2, rfl⟩, h4, trivial⟩
 | .prm p eff q ds, _, h => by obtain ⟨h1, d, bx', h2, h3, h5, h4⟩ := qE h; exact ⟨d, bx', ⟨h1, h2, h3, h5⟩, h4, trivial⟩
 | .callK p l f ds, _, h => by obtain ⟨h1, d, bx', h2, h3, h4⟩ := qE h; exact ⟨d, bx', ⟨h1, h2, h3⟩, h4, trivial⟩
 | .callC p f ds, _, h => by obtain ⟨h1, d, h2, h3⟩ := qE h; exact ⟨d, _, ⟨h1, h2, rfl⟩, h3, trivial⟩
 | .callN p n f ds, _, h => by obtain ⟨h1, d, bx', h2, h3, h4⟩ := qE h; exact ⟨d, bx', ⟨h1, h2⟩, h4, h3⟩
 | .callR p l f ds, _, h => by obtain ⟨h1, d, h2, h3⟩ := qE h; exact ⟨d, _, ⟨h1, h2, rfl⟩, h3, trivial⟩
 | .all p q ds, hn, h => absurd rfl (hn p q ds)
theorem kj6 {P : Program} {gt : Nat -> Option (List D)} {Φ : Fr -> Prop} {hs : List Prop} {m : M} {g : G} {env : x4} {bx bx' : List Ent} {d : D} (h : kf0 P gt Φ hs bx d bx' (jl gt m g env bx)) : bx' = bx \/ (g = [] /\ qd m = true) \/ (qd m = true /\ kD env g = true /\ (jo7 hs -> bx' = bx)) := by
 cases hr : jl gt m g env bx with
 | bad => rw [hr] at h; exact h.elim
 | ok p d0 bx0 => rw [hr] at h; obtain ⟨_, _, rfl⟩ := h; exact (kt0 hr).imp id .inl
 | call p eff f ds =>
   rw [hr] at h; obtain ⟨_, _, h⟩ := h
   cases eff with
   | false => exact .inl (h rfl)
   | true => exact .inr (.inl (jZ0 hr rfl))
 | row p l i off n => rw [hr] at h; exact .inl h.2.2
 | arr p l i n => rw [hr] at h; exact .inl h.2.2
 | ask p Q => rw [hr] at h; exact .inl h.2.2
 | put p Q d0 mk => exact .inr (.inl (jz1 hr))
 | prm p eff q ds =>
   rw [hr] at h; obtain ⟨_, _, h, h'⟩ := h
   cases eff with
   | false => exact .inl (h rfl)
   | true => obtain ⟨h1, h2⟩ := (jz2 hr).1 rfl; exact .inr (.inr ⟨h1, h2, h'⟩)
 | callK p l f ds => exact .inr (.inl (jg0 hr).1)
 | callC p f ds => rw [hr] at h; exact .inl h.2.2
 | callN p n f ds => exact .inr (.inl (jf9 hr).1)
 | callR p l f ds => rw [hr] at h; exact .inl h.2.2
 | all p q ds => rw [hr] at h; exact h.elim
theorem kG1 {K : Kn} {pl : Pl} {env : x4} {a : Act} {g : G} (hk : kD env g = true) (hs : ∀ s ∈ js6 g, SlotOk K pl env a s) (hn : ¬ qo a g) : jo7 (jB env g g) := by
 unfold kD at hk
 split at hk
 ·exact absurd (kF a) hn
 ·rename_i s pol
  split at hk
  ·rename_i b hb
   have hr : rd env [(s, pol)] s = some (.bool b) := by simp [rd, hb]
   have h1 := (hs s (by simp [js6]) [] (.bool b) hb (.inl rfl)).1 (kF a)
   simp only [Rep] at h1
   simp only [jB, hr, jo7]
   left
   intro e
   refine hn fun p hp => ?_
   rcases List.mem_singleton.1 hp with rfl
   rw [h1, e]
  ·cases hk
 ·cases hk
theorem ko7 {hs : List Prop} {p q : Prop} (h : p -> q) (hp : km hs p) : km hs q := by
 induction hs with
 | nil => exact h hp
 | cons x hs ih => exact fun hx => ih (hp hx)
theorem kK5 {P : Program} {gt : Nat -> Option (List D)} {Φ : Fr -> Prop} {hs : List Prop} {o : O} {g : G} {env : x4} {bx bx' bx2 : List Ent} {d : D} {l : List Nat} (hl : QB o = some l) (hf : jA o.fp o.m g env bx = true) (h : kf0 P gt Φ hs bx d bx' (jl gt o.m g env bx)) (ha : kV5 l bx bx2) :
  kf0 P gt Φ hs bx2 d bx2 (jl gt o.m g env bx2) := by
 obtain ⟨he, hc, hcp⟩ := jK0 hl
 rw [jY9 hl hf ha]
 cases hr : jl gt o.m g env bx with
 | bad => rw [hr] at h; exact h.elim
 | ok p d0 bx0 => rw [hr] at h; exact ⟨h.1, h.2.1, rfl⟩
 | call p eff f ds => have := jO4 hr; rw [hc] at this; cases this
 | row p l i off n => rw [hr] at h; exact ⟨h.1, h.2.1, rfl⟩
 | arr p l i n => rw [hr] at h; exact ⟨h.1, h.2.1, rfl⟩
 | ask p Q => rw [hr] at h; exact ⟨h.1, h.2.1, rfl⟩
 | put p Q d0 mk => have := (jz1 hr).2; rw [he] at this; cases this
 | prm p eff q ds => have := (jz2 hr).2; rw [hcp] at this; cases this
 | callK p l f ds => have := (jg0 hr).1.2; rw [he] at this; cases this
 | callC p f ds => rw [hr] at h; exact ⟨h.1, h.2.1, rfl⟩
 | callN p n f ds => have := (jf9 hr).1.2; rw [he] at this; cases this
 | callR p l' f ds =>
   obtain ⟨xs, hm⟩ := jO3 hr
   have : l' = l := by
    obtain ⟨dst, og, m, fp⟩ := o
    simp only at hm
    subst hm
    simpa [QB, jA9] using hl
   subst this
   rw [hr] at h
   exact ⟨h.1, ko7 (fun h1 bx3 h3 => h1 bx3 fun k hk => (ha k hk).trans (h3 k hk)) h.2.1, rfl⟩
 | all p q ds => rw [hr] at h; exact h.elim
theorem jd2 {bx : List Ent} {k j : Nat} {e : Ent} (h : j ≠ k) : jI (jQ bx k e) j = jI bx j := by
 rw [kG, kG, qF, List.getElem?_set_ne (Ne.symm h)]
theorem ko9 {P : Program} {gt : Nat -> Option (List D)} {Φ : Fr -> Prop} {hs : List Prop} {o : O} {g : G} {env : x4} {bx bx' : List Ent} {d : D} {l : List Nat} (hl : Yw o = some l) (hf : jA o.fp o.m g env bx = true) (h : kf0 P gt Φ hs bx d bx' (jl gt o.m g env bx)) (hx : Xtra P gt bx d bx' (jl gt o.m g env bx)) :
  ∀ k, k ∉ l -> jI bx' k = jI bx k := by
 obtain ⟨dst, og, m, fp⟩ := o
 cases m <;> simp only [Yw] at hl <;> first | (cases hl; done) | skip
 case st n a x =>
  subst hl
  simp only [jA, zb] at hf
  simp only [jl] at h
  split at h
  ·generalize jL env [] a = p at *
   generalize jL env [] x = q at *
   rcases p with _ | p
   ·exact h.elim
   rcases q with _ | q
   ·cases p <;> exact h.elim
   have key : ∀ {kk : Nat}, kk ∈ l -> ∀ (e : Ent) k, k ∉ l -> jI (jQ bx kk e) k = jI bx k := fun hkk _ k hk => jd2 (fun e => hk (e ▸ hkk))
   cases p <;> simp only [jJ] at h <;> first | exact h.elim | skip
   case box k off =>
    have hk := z1.1 hf k (by simp)
    split at h <;> first | exact h.elim | skip
    split at h <;> first | exact h.elim | skip
    split at h <;> first | exact h.elim | skip
    obtain ⟨_, _, rfl⟩ := h
    exact key hk _
   case boxi k off =>
    have hk := z1.1 hf k (by simp)
    split at h <;> first | exact h.elim | skip
    split at h <;> first | exact h.elim | skip
    obtain ⟨_, _, _, _, rfl⟩ := h
    exact key hk _
   case elo k v s i off =>
    have hk := z1.1 hf k (by simp)
    split at h <;> first | exact h.elim | skip
    split at h <;> first | exact h.elim | skip
    obtain ⟨_, _, _, _, rfl⟩ := h
    exact key hk _
  ·exact h.elim
 case alloc z =>
  subst hl
  simp only [jA, zb] at hf
  have key : ∀ (bx : List Ent) (e : Ent), jD bx ∈ l -> ∀ k, k ∉ l -> jI (jX bx e) k = jI bx k := fun bx e hk k hk' => by
   have hne : k ≠ bx.length := fun e' => hk' (by rw [e', <- kK]; exact hk)
   rw [kG, kG, qT]
   rcases Nat.lt_or_ge k bx.length with h1 | h1
   ·rw [List.getElem?_append_left h1]
   ·rw [List.getElem?_eq_none (by simp; omega), List.getElem?_eq_none h1]
  have hsz : ∀ (bx : List Ent) (e e' : Ent), jD (jX bx e) = jD (jX bx e') := fun bx e e' => by simp [kK, qT]
  simp only [jl] at h
  split at h
  ·split at h
   ·have hk := z1.1 hf
    obtain ⟨_, _, rfl⟩ := h
    intro k hk'
    rw [key _ _ (by rw [hsz _ _ .gone]; exact hk _ (by simp)) k hk', key _ _ (hk _ (by simp)) k hk']
   ·rename_i hz
    have hk : jD bx ∈ l := by
     split at hf
     ·rename_i f' hf'
      split at hf'
      ·cases hf'; exact z1.1 hf _ (by simp)
      ·cases hf'; exact z1.1 hf _ (by simp)
     ·cases hf
    obtain ⟨_, _, rfl⟩ := h
    exact key _ _ hk
  ·exact h.elim
 case callN n f xs =>
  subst hl
  simp only [jA, zb] at hf
  simp only [jl] at h hx
  generalize kq env g xs = av at h hx
  cases g with
  | cons x y => cases av <;> exact h.elim
  | nil =>
  cases av with
  | none => exact h.elim
  | some ds =>
    obtain ⟨_, es, rfl, he⟩ := hx
    intro k hk
    have hN : ∀ (n s k : Nat), s <= k -> k < s + n -> k ∈ KY s n := fun n => by
     induction n with
     | zero => intro s k h1 h2; omega
     | succ n ih =>
       intro s k h1 h2
       simp only [KY, List.mem_cons]
       by_cases h3 : k = s
       ·exact .inl h3
       ·exact .inr (ih (s + 1) k (by omega) (by omega))
    rw [kG, kG]
    rcases Nat.lt_or_ge k bx.length with h1 | h1
    ·rw [List.getElem?_append_left h1]
    ·rcases Nat.lt_or_ge k (bx.length + n) with h2 | h2
     ·exact absurd (z1.1 hf k (hN _ _ _ (by rw [kK]; exact h1) (by rw [kK]; exact h2))) hk
     ·rw [List.getElem?_eq_none (by simp; omega), List.getElem?_eq_none h1]
 case callK l' f xs =>
  cases hl
  simp only [jl] at h
  split at h
  ·exact h.2.2
  ·exact h.elim
 case app e sz b x y =>
  subst hl
  simp only [jA, zb] at hf
  simp only [jl] at h
  split at h
  ·generalize jL env [] x = p at *
   generalize jL env [] y = q at *
   have key : ∀ {kk : Nat}, kk ∈ l -> ∀ (e : Ent) k, k ∉ l -> jI (jQ bx kk e) k = jI bx k := fun hkk _ k hk => jd2 (fun e => hk (e ▸ hkk))
   rcases p with _ | p
   ·exact h.elim
   cases p <;> simp only [qg] at h <;> first | exact h.elim | skip
   case own k ver =>
    have hk := z1.1 hf k (by simp)
    rcases q with _ | q
    ·exact h.elim
    cases q <;> simp only [qg] at h <;> first | exact h.elim | skip
    all_goals (repeat' (split at h)) <;> first | exact h.elim | (obtain ⟨_, _, rfl⟩ := h; exact key hk _)
  ·exact h.elim
theorem Xm {P : Program} {gt : Nat -> Option (List D)} {Φ : Fr -> Prop} {nt i : Nat} {ops : Array Oper} {o : Oper} {o' : O} {g : G} {env : x4} {bx bx' : List Ent} {d : D} (hc : Y3 P nt ops o o' = some o'.bare) (hi : ops[i]? = some o)
  (hg : jj o'.dst (ji env o'.g) = some g) (hf : kf0 P gt Φ (jB env g g) bx d bx' (jl gt o'.m g env bx)) : kq9 P gt Φ nt ops i o' g env bx d bx' := by
 obtain ⟨hm, hdst, hlt, hgd⟩ := xR hc
 obtain ⟨hgp, hnot⟩ := xf hg
 -- a test that says no
 have hno : ∀ {F : Fr} {K pl w a} {d : D}, Inv F K pl bx w -> a.tmps.size = nt -> (∀ s ∈ Jq o'.m ++ js6 g, SlotOk K pl env a s) -> ¬ qo a g -> ∀ (next : Act -> World -> Prop) (Q : Exit -> Act -> World -> Prop),
   (∀ v w' K' pl', KLe K K' -> PLe pl pl' -> Inv F K' pl' bx w' -> (qo a g -> Rep K' pl' d v) -> (¬ qo a g -> v = undef) -> next (a.put o'.dst v) w') -> vM P ops Q i next a w := by
  intro F K pl w a d hI hsz hs hh next Q hn
  have hw := js5 (K := K) (pl := pl) (a := a) hgd hgp (fun s hs' => hs s (List.mem_append_right _ hs'))
  have hw' : ¬ Region.wanted o (yielded ops a.tmps) = true := fun h => hh (hw.1 h)
  simp only [vM, hi, hw', if_false, Bool.false_eq_true]
  rw [<- hdst]
  exact hn undef w K pl (KLe.refl _) (PLe.refl _) hI (fun h => absurd h hh) (fun _ => rfl)
 have hres := jT8 (P := P) (gt := gt) (g := g) (env := env) (bx := bx) (dst := o.dst) (pos := o.pos) (after := o.after) (guard := o.guard) hm
 have hoo : (⟨o.dst, o.op, o.type, o.pos, o.after, o.guard⟩ : Oper) = o := rfl
 rw [hoo] at hres
 have hq : ∀ {K pl a}, (∀ s ∈ Jq o'.m ++ js6 g, SlotOk K pl env a s) -> qo a g -> Region.wanted o (yielded ops a.tmps) = true /\ ∀ p ∈ jB env g g, p := fun {K pl a} hs hh =>
  ⟨(js5 (K := K) (pl := pl) (a := a) hgd hgp (fun s hs' => hs s (List.mem_append_right _ hs'))).2 hh, jK7 hh (fun _ h => h) (fun s hs' => hs s (List.mem_append_right _ hs'))⟩
 have hbad : g = [] -> ∀ {a : Act}, qo a g := fun h a => by subst h; exact kF a
 have hbx := kj6 hf
 intro F K pl w a hF hI hsz hs next Q hn
 by_cases hh : qo a g
 case neg =>
  have hbx' : bx' = bx := by
   rcases hbx with h | ⟨h, _⟩ | ⟨_, hk, hsk⟩
   ·exact h
   ·exact absurd (hbad h) hh
   ·exact hsk (kG1 (K := K) (pl := pl) (a := a) hk (fun s hs' => hs s (List.mem_append_right _ hs')) hh)
  subst hbx'
  exact hno hI hsz hs hh next Q hn
 case pos =>
  obtain ⟨hw, hyp⟩ := hq hs hh
  cases hr : jl gt o'.m g env bx with
  | bad => rw [hr] at hf; exact hf.elim
  | ok p d0 bx0 =>
    rw [hr] at hf hres
    obtain ⟨hp, rfl, rfl⟩ := hf
    obtain ⟨v, w', K', pl', hout, h1, h2, h3, h4⟩ := hres F K pl w a hF.1 hI (fun s hs' => hs s (List.mem_append_left _ hs')) hh (vF hyp hp)
    simp only [vM, hi, hw, if_true]
    have hnx := hn v w' K' pl' h1 h2 h3 (fun _ => h4) (fun h => absurd hh h)
    rw [hdst] at hnx
    rcases hout with hrun | ⟨hrun, rfl⟩
    ·exact xc hrun hnx
    ·exact XV hrun hnx
  | call p eff f ds =>
    rw [hr] at hf hres
    obtain ⟨hp, hsp, heff⟩ := hf
    obtain ⟨hok, hsp'⟩ := vQ hsp hyp
    obtain ⟨vs, hrun, h3⟩ := hres F K pl w a hF.1 hI (fun s hs' => hs s (List.mem_append_left _ hs')) hh (vF hyp hp) hok
    simp only [vM, hi, hw, if_true]
    refine JQ hrun ?_
    obtain ⟨rfl, _⟩ := hF
    refine (hsp' K pl w vs hI.mod hI.glob hI.tab h3).mono ?_
    rintro e w' ⟨v, K', pl', rfl, h5, h8⟩
    simp only
    rw [<- hdst]
    obtain ⟨g1, g2, g3⟩ := hI.then h5
    exact hn v w' K' pl' g1 g2 g3 (fun _ => h8) (fun h => absurd hh h)
  | row p l j off n =>
    rw [hr] at hf hres
    obtain ⟨hp, ⟨d1, hd, hd'⟩, rfl⟩ := hf
    obtain ⟨v, hrun, h4⟩ := hres F K pl w a hF.1 hI (fun s hs' => hs s (List.mem_append_left _ hs')) hh (vF hyp hp) d1 d (vQ hd hyp) hd'
    simp only [vM, hi, hw, if_true]
    refine xc hrun ?_
    rw [<- hdst]
    exact hn v w K pl (KLe.refl _) (PLe.refl _) hI (fun _ => h4) (fun h => absurd hh h)
  | arr p l j n =>
    rw [hr] at hf hres
    obtain ⟨hp, hd, rfl⟩ := hf
    obtain ⟨v, hrun, h4⟩ := hres F K pl w a hF.1 hI (fun s hs' => hs s (List.mem_append_left _ hs')) hh (vF hyp hp) d (vQ hd hyp)
    simp only [vM, hi, hw, if_true]
    refine xc hrun ?_
    rw [<- hdst]
    exact hn v w K pl (KLe.refl _) (PLe.refl _) hI (fun _ => h4) (fun h => absurd hh h)
  | ask p Qd =>
    rw [hr] at hf hres
    obtain ⟨hp, hd, rfl⟩ := hf
    obtain ⟨v, hrun, h4⟩ := hres F K pl w a hF.1 hI (fun s hs' => hs s (List.mem_append_left _ hs')) hh (vF hyp hp) d (vQ hd hyp)
    simp only [vM, hi, hw, if_true]
    refine xc hrun ?_
    rw [<- hdst]
    exact hn v w K pl (KLe.refl _) (PLe.refl _) hI (fun _ => h4) (fun h => absurd hh h)
  | put p Qd d0 mk =>
    rw [hr] at hf hres
    obtain ⟨hp, rfl, l', hl', rfl⟩ := hf
    obtain ⟨v, w', K', pl', hout, h1, h2, h3, h4⟩ := hres F K pl w a hF.1 hI (fun s hs' => hs s (List.mem_append_left _ hs')) hh (vF hyp hp) l' (vQ hl' hyp)
    simp only [vM, hi, hw, if_true]
    have hnx := hn v w' K' pl' h1 h2 h3 (fun _ => h4) (fun h => absurd hh h)
    rw [hdst] at hnx
    rcases hout with hrun | ⟨hrun, rfl⟩
    ·exact xc hrun hnx
    ·exact XV hrun hnx
  | all p q ds => rw [hr] at hf; exact hf.elim
  | callK p l f ds =>
    rw [hr] at hf hres
    obtain ⟨hp, hsp', _⟩ := hf
    obtain ⟨hok, hsp'⟩ := hsp'
    obtain ⟨vs, hrun, h3⟩ := hres F K pl w a hF.1 hI (fun s hs' => hs s (List.mem_append_left _ hs')) hh (vF hyp hp) hok
    simp only [vM, hi, hw, if_true]
    refine JQ hrun ?_
    obtain ⟨rfl, _⟩ := hF
    refine (hsp' K pl w vs hI.mod hI.glob hI.tab h3).mono ?_
    rintro e w' ⟨v, K', pl', rfl, h5, h8⟩
    simp only
    rw [<- hdst]
    obtain ⟨g1, g2, g3⟩ := hI.then h5
    exact hn v w' K' pl' g1 g2 g3 (fun _ => h8) (fun h => absurd hh h)
  | callC p f ds =>
    rw [hr] at hf hres
    obtain ⟨hp, hsp, rfl⟩ := hf
    obtain ⟨hok, hsp'⟩ := vQ hsp hyp bx'
    obtain ⟨vs, hrun, h3⟩ := hres F K pl w a hF.1 hI (fun s hs' => hs s (List.mem_append_left _ hs')) hh (vF hyp hp) hok
    simp only [vM, hi, hw, if_true]
    refine JQ hrun ?_
    obtain ⟨rfl, _⟩ := hF
    refine (hsp' K pl w vs hI.mod hI.glob hI.tab h3).mono ?_
    rintro e w' ⟨v, K', pl', rfl, h5, h8⟩
    simp only
    rw [<- hdst]
    obtain ⟨g1, g2, g3⟩ := hI.then h5
    exact hn v w' K' pl' g1 g2 g3 (fun _ => h8) (fun h => absurd hh h)
  | callN p n f ds =>
    rw [hr] at hf hres
    obtain ⟨hp, hsp⟩ := hf
    obtain ⟨hok, hsp'⟩ := hsp
    obtain ⟨vs, hrun, h3⟩ := hres F K pl w a hF.1 hI (fun s hs' => hs s (List.mem_append_left _ hs')) hh (vF hyp hp) hok
    simp only [vM, hi, hw, if_true]
    refine JQ hrun ?_
    obtain ⟨rfl, _⟩ := hF
    refine (hsp' K pl w vs hI.mod hI.glob hI.tab h3).mono ?_
    rintro e w' ⟨v, K', pl', rfl, h5, h8⟩
    simp only
    rw [<- hdst]
    obtain ⟨g1, g2, g3⟩ := hI.then h5
    exact hn v w' K' pl' g1 g2 g3 (fun _ => h8) (fun h => absurd hh h)
  | callR p l f ds =>
    rw [hr] at hf hres
    obtain ⟨hp, hsp, rfl⟩ := hf
    obtain ⟨hok, hsp'⟩ := vQ hsp hyp bx' (fun _ _ => rfl)
    obtain ⟨vs, hrun, h3⟩ := hres F K pl w a hF.1 hI (fun s hs' => hs s (List.mem_append_left _ hs')) hh (vF hyp hp) hok
    simp only [vM, hi, hw, if_true]
    refine JQ hrun ?_
    obtain ⟨rfl, _⟩ := hF
    refine (hsp' K pl w vs hI.mod hI.glob hI.tab h3).mono ?_
    rintro e w' ⟨v, K', pl', rfl, h5, h8⟩
    simp only
    rw [<- hdst]
    obtain ⟨g1, g2, g3⟩ := hI.then h5
    exact hn v w' K' pl' g1 g2 g3 (fun _ => h8) (fun h => absurd hh h)
  | prm p eff q ds =>
    rw [hr] at hf hres
    obtain ⟨hp, hsp, heff, _⟩ := hf
    obtain ⟨xs, hq2, h3⟩ := hres F K pl w a hF.1 hI (fun s hs' => hs s (List.mem_append_left _ hs')) hh (vF hyp hp)
    simp only [vM, hi, hw, if_true]
    rcases vQ hsp hyp F K pl w o a.eval xs hF.2 (fun _ => rfl) hI hq2 h3 with ⟨v, w', K', pl', hout, h1, h2, h3, h4⟩ | ⟨l, f, tmps, assign, body, hrun, hround⟩
    ·have hnx := hn v w' K' pl' h1 h2 h3 (fun _ => h4) (fun h => absurd hh h)
     rw [hdst] at hnx
     rcases hout with hrun | ⟨hrun, rfl⟩
     ·exact xc hrun hnx
     ·exact XV hrun hnx
    ·refine jy6 hrun (hround.mono ?_)
     rintro e w' ⟨v, K', pl', rfl, h1, h2, h3, h4⟩
     have hnx := hn v w' K' pl' h1 h2 h3 (fun _ => h4) (fun h => absurd hh h)
     rw [hdst] at hnx
     exact hnx
theorem kQ7 {P : Program} {gt : Nat -> Option (List D)} {Φ : Fr -> Prop} {nt i : Nat} {ops : Array Oper} {o : Oper} {o' : O} {R : St -> Prop} {st : St} (hc : Y3 P nt ops o o' = some o'.bare) (hi : ops[i]? = some o)
  (hv : kd1 (jX6 P gt Φ) gt R o' st (jj o'.dst (ji st.env o'.g))) {p0 : List Prop} {q0 : Pr} {ds0 : List D} {g0 : G} (hg0 : jj o'.dst (ji st.env o'.g) = some g0) (hr : jl gt o'.m g0 st.env st.bx = .all p0 q0 ds0) :
  ∃ T : D -> List Ent -> Prop, (∀ d bx', T d bx' -> R ⟨jw o'.dst [] d st.env, bx'⟩) /\ g0 = [] /\ ∀ (F : Fr) (K : Kn) (pl : Pl) (w : World) (a : Act), Φ F -> F.gt = gt -> Inv F K pl st.bx w -> a.tmps.size = nt -> (∀ s ∈ Jq o'.m, SlotOk K pl st.env a s) -> ∀ (next : Act -> World -> Prop) (Q : Exit -> Act -> World -> Prop),
   (∀ d bx' v w' K' pl', T d bx' -> KLe K K' -> PLe pl pl' -> Inv F K' pl' bx' w' -> Rep K' pl' d v -> next (a.put o'.dst v) w') -> vM P ops Q i next a w := by
 obtain ⟨⟨rfl, _⟩, _⟩ := jz3 hr
 rw [hg0] at hv
 simp only [kd1] at hv
 cases hfp : jA o'.fp o'.m [] st.env st.bx with
 | false => rw [hfp] at hv; exact hv.elim
 | true =>
   rw [hfp, hr] at hv
   obtain ⟨hp, T, hT, hR⟩ := qE (show jx _ _ from hv)
   refine ⟨T, hR, rfl, fun F K pl w a hΦ hF hI hsz hs next Q hn => ?_⟩
   obtain ⟨hm, hdst, hlt, hgd⟩ := xR hc
   obtain ⟨hgp, hnot⟩ := xf hg0
   have hres := jT8 (P := P) (gt := gt) (g := []) (env := st.env) (bx := st.bx) (dst := o.dst) (pos := o.pos) (after := o.after) (guard := o.guard) hm
   have hoo : (⟨o.dst, o.op, o.type, o.pos, o.after, o.guard⟩ : Oper) = o := rfl
   rw [hoo, hr] at hres
   have hw : Region.wanted o (yielded ops a.tmps) = true := (js5 (K := K) (pl := pl) (a := a) hgd hgp (fun s hs' => by simp [js6] at hs')).2 (kF a)
   obtain ⟨xs, hq2, h3⟩ := hres F K pl w a hF hI hs (kF a) (vF (jK7 (env := st.env) (K := K) (pl := pl) (a := a) (kF a) (fun _ h => h) (fun s hs' => by simp [js6] at hs')) hp)
   simp only [vM, hi, hw, if_true]
   rcases hT F K pl w o a.eval xs hΦ (fun _ => rfl) hI hq2 h3 with ⟨v, w', K', pl', d, bx', ht, hout, h1, h2, h3, h4⟩ | ⟨l, f, tmps, assign, body, hrun, hround⟩
   ·have hnx := hn d bx' v w' K' pl' ht h1 h2 h3 h4
    rw [hdst] at hnx
    rcases hout with hrun | ⟨hrun, rfl⟩
    ·exact xc hrun hnx
    ·exact XV hrun hnx
   ·refine jy6 hrun (hround.mono ?_)
    rintro e w' ⟨v, K', pl', d, bx', rfl, ht, h1, h2, h3, h4⟩
    have hnx := hn d bx' v w' K' pl' ht h1 h2 h3 h4
    rw [hdst] at hnx
    exact hnx
def kD3 (P : Program) (gt : Nat -> Option (List D)) (Φ : Fr -> Prop) (nt : Nat) (ops : Array Oper) (i : Nat) (o' : O) (g : G) (env : x4) (bx : List Ent) (d : D) (bx' : List Ent) : Prop :=
 kq9 P gt Φ nt ops i o' g env bx d bx' /\ (qd o'.m = false -> bx' = bx) /\ (∀ l, QB o' = some l -> ∀ bx2, kV5 l bx bx2 -> kq9 P gt Φ nt ops i o' g env bx2 d bx2) /\ (∀ l, Yw o' = some l -> ∀ k, k ∉ l -> jI bx' k = jI bx k) /\
 (∀ z, o'.m = .alloc z -> xL z = true -> g = [] /\ bx' = jX bx (.cells z) /\ d = .box (jD bx) 0) /\
 (∀ n f xs, o'.m = .callN n f xs -> g = [] /\ (∃ es, bx' = bx ++ es /\ es.length = n) /\ ∀ t, kq9 P gt Φ nt ops i o' g env (bx ++ (qp n ++ t)) d (bx' ++ t))
theorem kd6 {P : Program} {gt : Nat -> Option (List D)} {Φ : Fr -> Prop} {hs : List Prop} {z : List D} {g : G} {env : x4} {bx bx' : List Ent} {d : D} (hz : xL z = true) (h : kf0 P gt Φ hs bx d bx' (jl gt (.alloc z) g env bx)) : g = [] /\ bx' = jX bx (.cells z) /\ d = .box (jD bx) 0 := by
 simp only [jl] at h
 split at h
 ·split at h
  ·simp [xL] at hz
  ·obtain ⟨_, h1, h2⟩ := h; exact ⟨rfl, h2, h1⟩
 ·exact h.elim
theorem jS9 {P : Program} {gt : Nat -> Option (List D)} {Φ : Fr -> Prop} {nt i : Nat} {ops : Array Oper} {o : Oper} {o' : O} {R : St -> Prop} {st : St} (hc : Y3 P nt ops o o' = some o'.bare) (hi : ops[i]? = some o)
  (hv : kd1 (jX6 P gt Φ) gt R o' st (jj o'.dst (ji st.env o'.g))) (hnd : ∀ g p q ds, jj o'.dst (ji st.env o'.g) = some g -> jl gt o'.m g st.env st.bx ≠ .all p q ds) :
  ∃ g d bx', jj o'.dst (ji st.env o'.g) = some g /\ R ⟨jw o'.dst g d st.env, bx'⟩ /\ kD3 P gt Φ nt ops i o' g st.env st.bx d bx' := by
 cases hgo : jj o'.dst (ji st.env o'.g) with
 | none => rw [hgo] at hv; exact hv.elim
 | some g =>
   rw [hgo] at hv
   simp only [kd1] at hv
   cases hfp : jA o'.fp o'.m g st.env st.bx with
   | false => rw [hfp] at hv; exact hv.elim
   | true =>
     rw [hfp] at hv
     obtain ⟨d, bx', hf, hR, hX⟩ := kK3 (fun p q ds => hnd g p q ds hgo) (show jD3 (jX6 P gt Φ) R _ _ _ _ _ from hv)
     refine ⟨g, d, bx', rfl, hR, Xm hc hi hgo hf, fun he => ?_, fun l hl bx2 ha => Xm hc hi hgo (kK5 hl hfp hf ha), fun l hl => ko9 hl hfp hf hX, fun z hz hp => kd6 hp (by rw [<- hz]; exact hf), fun n f xs hm => ?_⟩
     rotate_left
     ·rw [hm] at hf hX
      simp only [jl] at hf hX
      cases hds : kq st.env g xs with
      | none => rw [hds] at hf; cases g <;> exact hf.elim
      | some ds =>
      rw [hds] at hf hX
      cases g with
      | cons x y => exact hf.elim
      | nil =>
        obtain ⟨h1, h2⟩ := hX
        refine ⟨rfl, h2, fun t => Xm hc hi hgo ?_⟩
        rw [hm]
        simp only [jl, hds]
        exact ⟨fun q hq => hf.1 q hq, h1 t⟩
     rcases kj6 hf with h | ⟨_, h⟩ | ⟨h, _⟩
     ·exact h
     ·rw [he] at h; cases h
     ·rw [he] at h; cases h
def jC1 (ds : List Nat) : List Deferred := ds.map fun D => { target := .collected D, args := #[] }
def Den (nt : Nat) (F : Fr) (ds : List Nat) (st : St) (a : Act) (w : World) : Prop :=
 a.tmps.size = nt /\ a.defers = jC1 ds /\ ∃ K pl, Inv F K pl st.bx w /\ ∀ s, SlotOk K pl st.env a s
theorem xK (a : Act) (d : Option Tmp) (v : Value) : (a.put d v).defers = a.defers := by cases d <;> rfl
theorem jM6 {P : Program} {ty : TypeId} {op : Op} {h m : M} (hc : ju8 P ty op h = some m) : ∀ c, op ≠ .defer c := by
 rintro c rfl
 unfold ju8 at hc
 split at hc
 ·simp [Vc] at hc
 ·simp [jW4, je6, Vc] at hc
theorem Y2 {P : Program} {nt : Nat} {ops : Array Oper} {o : Oper} {o' : O} (h : Y3 P nt ops o o' = some o'.bare) : ∀ c, o.op ≠ .defer c := jM6 (xR h).1
theorem jI7 {P : Program} {nt : Nat} {ops : Array Oper} {Q : Exit -> Act -> World -> Prop} {F : Fr} {dl : List Nat} {Φ : Fr -> Prop} (hΦ : Φ F) {R : St -> Prop} (ro : Option Nat) (n : Nat) (hQ : ∀ a w st, R st -> Den nt F dl st a w -> Q .normal a w) :
  ∀ (os : List Oper) (l : List O) (k : Nat) (st : St) (a : Act) (w : World), v8 P nt ops os l = some (Ja l) -> (∀ j, os[j]? = ops[k + j]?) -> qj (jX6 P F.gt Φ) F.gt l R st -> Den nt F dl st a w -> wpOpsIn (wr ro) n P ops Q (List.range' k os.length) a w
 | [], [], k, st, a, w, hc, _, hr, hd => hQ a w st hr hd
 | [], _ :: _, k, st, a, w, hc, _, hr, hd => by simp [v8, Ja] at hc
 | o :: os, [], k, st, a, w, hc, _, hr, hd => by simp [v8, Ja] at hc
 | o :: os, o' :: l', k, st, a, w, hc, hk, hr, hd => by
   simp only [v8, Ja] at hc
   split at hc
   ·rename_i ob lb ho hl
    simp only [Option.some.injEq, List.cons.injEq] at hc
    obtain ⟨rfl, rfl⟩ := hc
    simp only [qj] at hr
    have hi : ops[k]? = some o := by simpa using (hk 0).symm
    obtain ⟨hsz, hdf, K, pl, hI, hs⟩ := hd
    simp only [List.length_cons, List.range'_succ]
    rw [wpOpsIn_cons]
    obtain ⟨_, hdst, hlt, _⟩ := xR ho
    have hnd : ∀ o1, ops[k]? = some o1 -> ∀ c, o1.op ≠ .defer c := fun o1 h1 => by rw [hi] at h1; cases h1; exact Y2 ho
    by_cases hall : ∃ g p q ds, jj o'.dst (ji st.env o'.g) = some g /\ jl F.gt o'.m g st.env st.bx = .all p q ds
    ·obtain ⟨g, p, q, ds, hg, hst⟩ := hall
     obtain ⟨T, hT, rfl, hok⟩ := kQ7 ho hi hr hg hst
     refine jm7 ro n hnd (hok F K pl w a hΦ rfl hI hsz (fun s _ => hs s) _ Q fun d bx' v w' K' pl' ht h1 h2 h3 h4 => ?_)
     refine jI7 hΦ ro n hQ os l' (k + 1) _ _ w' hl (fun j => by have := hk (j + 1); simpa [Nat.add_assoc, Nat.add_comm 1] using this) (hT d bx' ht) ⟨by rw [JZ]; exact hsz, by rw [xK]; exact hdf, K', pl', h3, fun s => ?_⟩
     exact ((hs s).mono h1 h2).put (xf hg).2 (fun t ht => by rw [hsz]; exact hlt t (by rw [<- hdst]; exact ht)) (fun _ => h4) (fun h => absurd (kF a) h)
    obtain ⟨g, d, bx', hg, hR, hok, _⟩ := jS9 ho hi hr (fun g p q ds h1 h2 => hall ⟨g, p, q, ds, h1, h2⟩)
    refine jm7 ro n hnd (hok F K pl w a ⟨rfl, hΦ⟩ hI hsz (fun s _ => hs s) _ Q fun v w' K' pl' h1 h2 h3 h4 h5 => ?_)
    refine jI7 hΦ ro n hQ os l' (k + 1) _ _ w' hl (fun j => by have := hk (j + 1); simpa [Nat.add_assoc, Nat.add_comm 1] using this) hR ⟨by rw [JZ]; exact hsz, by rw [xK]; exact hdf, K', pl', h3, fun s => ?_⟩
    exact ((hs s).mono h1 h2).put (xf hg).2 (fun t ht => by rw [hsz]; exact hlt t (by rw [<- hdst]; exact ht)) h4 h5
   ·cases hc
/-! ### The order's facts, taken out of the text's walk -/
structure Trace (P : Program) (gt : Nat -> Option (List D)) (Φ : Fr -> Prop) (nt : Nat) (ops : Array Oper) (k : Nat) (l : List O) (R : St -> Prop) (st : St) where
 env : Nat -> x4
 gs : Nat -> G
 ds : Nat -> D
 bxs : Nat -> List Ent
 env0 : env 0 = st.env
 bx0 : bxs 0 = st.bx
 last : R ⟨env l.length, bxs l.length⟩
 step : ∀ i o', l[i]? = some o' -> jj o'.dst (ji (env i) o'.g) = some (gs i) /\ env (i + 1) = jw o'.dst (gs i) (ds i) (env i) /\ kD3 P gt Φ nt ops (k + i) o' (gs i) (env i) (bxs i) (ds i) (bxs (i + 1))
theorem XY {P : Program} {gt : Nat -> Option (List D)} {Φ : Fr -> Prop} {nt : Nat} {ops : Array Oper} {R : St -> Prop} : ∀ (os : List Oper) (l : List O) (k : Nat) (st : St), v8 P nt ops os l = some (Ja l) -> (∀ j, os[j]? = ops[k + j]?) -> (∀ o' ∈ l, ndM o'.m = false) -> qj (jX6 P gt Φ) gt l R st -> Nonempty (Trace P gt Φ nt ops k l R st)
 | [], _ :: _, k, st, hc, _, _, hr => by simp [v8, Ja] at hc
 | o :: os, [], k, st, hc, _, _, hr => by simp [v8, Ja] at hc
 | [], [], k, st, hc, _, _, hr => by
   exact ⟨⟨fun _ => st.env, fun _ => [], fun _ => .any, fun _ => st.bx, rfl, rfl, hr, fun i o' h => by simp at h⟩⟩
 | o :: os, o' :: l', k, st, hc, hk, hnd, hr => by
   simp only [v8, Ja] at hc
   split at hc
   ·rename_i ob lb ho hl
    simp only [Option.some.injEq, List.cons.injEq] at hc
    obtain ⟨rfl, rfl⟩ := hc
    simp only [qj] at hr
    have hi : ops[k]? = some o := by simpa using (hk 0).symm
    obtain ⟨g, d, bx', hg, hR, hok⟩ := jS9 ho hi hr (fun g p q ds _ h2 => by have := (jz3 h2).2; rw [hnd o' (by simp)] at this; cases this)
    obtain ⟨T⟩ := XY os l' (k + 1) _ hl (fun j => by have := hk (j + 1); simpa [Nat.add_assoc, Nat.add_comm 1] using this) (fun o2 h2 => hnd o2 (by simp [h2])) hR
    refine ⟨⟨fun | 0 => st.env | i + 1 => T.env i, fun | 0 => g | i + 1 => T.gs i, fun | 0 => d | i + 1 => T.ds i, fun | 0 => st.bx | i + 1 => T.bxs i, rfl, rfl, T.last, fun i o2 h => ?_⟩⟩
    cases i with
    | zero =>
      simp at h; subst h
      refine ⟨hg, T.env0, ?_⟩
      have := T.bx0
      simp only at this |-
      rw [this]; exact hok
    | succ i =>
      have := T.step i o2 (by simpa using h)
      refine ⟨this.1, this.2.1, ?_⟩
      have e : k + (i + 1) = k + 1 + i := by omega
      rw [e]; exact this.2.2
   ·cases hc
end Go.AM
set_option linter.all false
namespace Go.AM
open Go Go.RowKit
theorem yk {t : Nat} : ∀ {l : List Nat}, YI l t = true ↔ t ∈ l
 | [] => by simp [YI]
 | s :: l => by
   simp only [YI]
   cases h : s == t with
   | true => simp at h; simp [h]
   | false => simp at h; simp [yk (l := l), Ne.symm h]
def Ve (ops : Array Oper) (S : Nat -> Prop) : Prop := ∀ j, S j -> ∀ o, ops[j]? = some o -> ∀ e ∈ o.after, Region.binds .any e = true -> S e.on
def Bf (ops : Array Oper) (k i : Nat) : Prop := ∀ S : Nat -> Prop, Ve ops S -> (∀ o, ops[i]? = some o -> ∀ e ∈ o.after, Region.binds .any e = true -> S e.on) -> S k
theorem Bf.trans {ops : Array Oper} {a b c : Nat} (h : Bf ops a b) (h' : Bf ops b c) : Bf ops a c := fun S hS hc => h S hS (fun o ho e he hb => hS b (h' S hS hc) o ho e he hb)
theorem Bf.of {ops : Array Oper} {k i : Nat} (h : Bf ops k i) {S : Nat -> Prop} (hS : Ve ops S) (hi : S i) : S k := h S hS (fun o ho e he hb => hS i hi o ho e he hb)
theorem jr9 {x : Nat} : ∀ {r l : List Nat}, x ∈ js0 l r -> x ∈ l \/ x ∈ r
 | [], l, h => .inl (by simpa [js0] using h)
 | y :: r, l, h => by
   simp only [js0] at h
   rcases jr9 h with h | h
   ·unfold kJ5 at h
    split at h
    ·exact .inl h
    ·rcases List.mem_cons.1 h with rfl | h
     ·exact .inr (by simp)
     ·exact .inl h
   ·exact .inr (by simp [h])
theorem kk8 {ops : Array Oper} {i : Nat} {o : Oper} (ho : ops[i]? = some o) {acc : List (List Nat)} (hacc : ∀ j k, k ∈ jq9 acc j -> Bf ops k j) : ∀ (es : List Edge), (∀ e ∈ es, e ∈ o.after) -> ∀ k, k ∈ jN0 acc es -> Bf ops k i
 | [], _, k, h => by simp [jN0] at h
 | e :: es, he, k, h => by
   simp only [jN0] at h
   have ih := kk8 ho hacc es (fun e' he' => he e' (by simp [he']))
   split at h
   ·rename_i hb
    have hon : Bf ops e.on i := fun S hS hc => hc o ho e (he e (by simp)) hb
    rcases jr9 h with h | h
    ·unfold kJ5 at h
     split at h
     ·exact ih k h
     ·rcases List.mem_cons.1 h with rfl | h
      ·exact hon
      ·exact ih k h
    ·exact (hacc _ _ h).trans hon
   ·exact ih k h
theorem jh3 {x : List Nat} {k : Nat} : ∀ {acc : List (List Nat)} {j : Nat}, k ∈ jq9 (acc ++ [x]) j -> k ∈ jq9 acc j \/ (j = acc.length /\ k ∈ x)
 | [], 0, h => .inr ⟨rfl, by simpa [jq9] using h⟩
 | [], j + 1, h => by simp [jq9] at h
 | y :: acc, 0, h => .inl (by simpa [jq9] using h)
 | y :: acc, j + 1, h => by
   simp only [List.cons_append, jq9] at h |-
   rcases jh3 h with h' | ⟨h1, h'⟩
   ·exact .inl h'
   ·exact .inr ⟨by simp [h1], h'⟩
theorem jL9 : ∀ {l r : List Nat}, kd8 l r = true -> l = r
 | [], [], _ => rfl
 | x :: l, y :: r, h => by
   simp only [kd8, qw, beq_iff_eq] at h
   rw [h.1, jL9 h.2]
 | [], _ :: _, h => by simp [kd8] at h
 | _ :: _, [], h => by simp [kd8] at h
theorem Y7 {b a : O} (h : JC b a = true) : ∃ z' L, ((∃ z, b.m = .alloc z /\ xL z = true) \/ ∃ n f xs, b.m = .callN n f xs) /\ a.m = .alloc z' /\ b.g = none /\ a.g = none /\ b.fp = some L /\ a.fp = some L /\ xL z' = true /\ zy a b.dst = false /\ zy b a.dst = false := by
 unfold JC at h
 split at h
 ·rename_i z z' l l' h1 h2 h3 h4 h5 h6
  simp only [qw, ZU] at h
  obtain ⟨q1, q2, q3, q4, q5⟩ := h
  have := jL9 q3; subst this
  exact ⟨z', l, .inl ⟨z, h1, q1⟩, h2, h3, h4, h5, h6, q2, q4, q5⟩
 ·rename_i n f xs z' l l' h1 h2 h3 h4 h5 h6
  simp only [qw, ZU] at h
  obtain ⟨q2, q3, q4, q5⟩ := h
  have := jL9 q3; subst this
  exact ⟨z', l, .inr ⟨n, f, xs, h1⟩, h2, h3, h4, h5, h6, q2, q4, q5⟩
 ·cases h
theorem QZ {b a : O} (h : JC b a = true) : qd b.m = true /\ qd a.m = true := by
 obtain ⟨z', L, h1, h2, _⟩ := Y7 h
 refine ⟨?_, by rw [h2]; rfl⟩
 rcases h1 with ⟨z, h1, _⟩ | ⟨n, f, xs, h1⟩ <;> rw [h1] <;> rfl
theorem ZJ {an : List Nat} {a : O} : ∀ {done : List O} {i0 : Nat}, Ks an a i0 done = true -> ∀ j b, done[j]? = some b -> jx8 a b = true -> i0 + j ∈ an \/ (j + 1 = done.length /\ JC b a = true)
 | [], _, _, _, _, h, _ => by simp at h
 | [c], i0, h, j, b, hb, hc => by
   simp only [Ks] at h
   cases j with
   | zero =>
     simp at hb; subst hb
     rw [hc] at h
     rcases yw.1 h with h | h
     ·exact .inl (by simpa using yk.1 h)
     ·exact .inr ⟨rfl, h⟩
   | succ j => simp at hb
 | c :: c2 :: done, i0, h, j, b, hb, hc => by
   simp only [Ks, qw] at h
   cases j with
   | zero =>
     simp at hb; subst hb
     rw [hc] at h
     exact .inl (by simpa using yk.1 h.1)
   | succ j =>
     rcases ZJ h.2 j b (by simpa using hb) hc with h' | ⟨h1, h2⟩
     ·left
      have e : i0 + 1 + j = i0 + (j + 1) := by omega
      rwa [e] at h'
     ·exact .inr ⟨by simp at h1 |-; omega, h2⟩
theorem QA {g : Option (Nat × Bool)} : ∀ {l : List O}, KX g l = true -> ∀ (i : Nat) (b : O) (d : Nat), l[i]? = some b -> b.dst = some d -> js9 g d = false
 | [], _, _, _, _, h, _ => by simp at h
 | c :: l, h, i, b, d, hb, hd => by
   simp only [KX, qw] at h
   cases i with
   | zero =>
     simp at hb; subst hb
     rw [hd] at h
     simpa [ZU] using h.1
   | succ i => exact QA h.2 i b d (by simpa using hb) hd
theorem jW2 : ∀ {as : List O} {acc : List (List Nat)} {done : List O} {os : List Oper}, VY acc done os as = true -> ∀ a ∈ as, ndM a.m = false
 | [], _, _, _, _, a, h => by cases h
 | a :: as, acc, done, [], h, _, _ => by simp [VY] at h
 | a :: as, acc, done, o :: os, h, b, hb => by
   simp only [VY, qw] at h
   rcases List.mem_cons.1 hb with rfl | hb
   ·simpa [ZU] using h.2.1
   ·exact jW2 h.2.2.2 b hb
theorem jt8 {ops : Array Oper} : ∀ (as : List O) (acc : List (List Nat)) (done : List O) (os : List Oper), VY acc done os as = true -> (∀ j, os[j]? = ops[done.length + j]?) -> acc.length = done.length -> (∀ j k, k ∈ jq9 acc j -> Bf ops k j) ->
  (∀ (j : Nat) (a : O), as[j]? = some a -> ∀ (i : Nat) (b : O), (done ++ as)[i]? = some b -> i < done.length + j -> jx8 a b = true -> Bf ops i (done.length + j) \/ (i + 1 = done.length + j /\ JC b a = true)) /\
  (∀ (j : Nat) (a : O), as[j]? = some a -> ∀ (i : Nat) (b : O) (d : Nat), as[i]? = some b -> b.dst = some d -> js9 a.g d = true -> i < j)
 | [], acc, done, os, h, hk, hl, hacc => ⟨fun j a hj => by simp at hj, fun j a hj => by simp at hj⟩
 | a :: as, acc, done, [], h, hk, hl, hacc => by simp [VY] at h
 | a :: as, acc, done, o :: os, h, hk, hl, hacc => by
   simp only [VY, qw] at h
   obtain ⟨h1, _, h2, h3⟩ := h
   have ho : ops[done.length]? = some o := by simpa using (hk 0).symm
   have hanc : ∀ k, k ∈ jN0 acc o.after.toList -> Bf ops k done.length := kk8 ho hacc o.after.toList (fun e he => by simpa using he)
   obtain ⟨ih1, ih2⟩ := jt8 as (acc ++ [jN0 acc o.after.toList]) (done ++ [a]) os h3 (fun j => by have := hk (j + 1); simp at this |-; rw [this]; congr 1; omega) (by simp [hl]) (fun j k hjk => by
    rcases jh3 hjk with h | ⟨rfl, h⟩
    ·exact hacc j k h
    ·rw [hl]; exact hanc k h)
   refine ⟨fun j c hj i b hb hij hc => ?_, fun j c hj i b d hb hd hg => ?_⟩
   ·cases j with
    | zero =>
      simp at hj; subst hj
      have hb' : done[i]? = some b := by rwa [List.getElem?_append_left (by omega)] at hb
      rcases ZJ h1 i b hb' hc with h' | h'
      ·left; simpa using hanc i (by simpa using h')
      ·exact .inr (by simpa using h')
    | succ j =>
      have := ih1 j c (by simpa using hj) i b (by simpa using hb) (by simp; omega) hc
      have e : (done ++ [a]).length + j = done.length + (j + 1) := by simp; omega
      rwa [e] at this
   ·cases j with
    | zero =>
      simp at hj; subst hj
      have := QA h2 i b d hb hd
      rw [hg] at this; cases this
    | succ j =>
      cases i with
      | zero => omega
      | succ i => have := ih2 j c (by simpa using hj) i b d (by simpa using hb) hd hg; omega
def jf6 (env : x4) : Prop := ∀ s g d, get env s = some (g, d) -> g = []
section
variable {P : Program} {gt : Nat -> Option (List D)} {Φ : Fr -> Prop} {nt : Nat} {ops : Array Oper} {l : List O} {R : St -> Prop} {st : St}
theorem Trace.cases (T : Trace P gt Φ nt ops 0 l R st) {s : Nat} {g : G} {d : D} : ∀ (i : Nat), i <= l.length -> get (T.env i) s = some (g, d) ->
  (∃ (j : Nat) (o' : O), j < i /\ l[j]? = some o' /\ o'.dst = some s /\ g = T.gs j /\ d = T.ds j /\ ∀ m om, j < m -> m < i -> l[m]? = some om -> om.dst ≠ some s) \/
  ((∀ m om, m < i -> l[m]? = some om -> om.dst ≠ some s) /\ get (T.env 0) s = some (g, d))
 | 0, _, h => .inr ⟨fun m om hm => by omega, h⟩
 | i + 1, hi, h => by
   obtain ⟨o', ho⟩ : ∃ o', l[i]? = some o' := ⟨l[i], List.getElem?_eq_getElem (by omega)⟩
   obtain ⟨_, he, _⟩ := T.step i o' ho
   rw [he] at h
   by_cases hd : o'.dst = some s
   ·rw [hd] at h
    simp [jw, get] at h
    exact .inl ⟨i, o', by omega, ho, hd, h.1.symm, h.2.symm, fun m om h1 h2 => by omega⟩
   ·have h' : get (T.env i) s = some (g, d) := by
     cases hdst : o'.dst with
     | none => rw [hdst] at h; simpa [jw] using h
     | some t =>
       rw [hdst] at h hd
       have hne : (t == s) = false := by simp; intro e; exact hd (by rw [e])
       simpa [jw, get, hne] using h
    rcases Trace.cases T i (by omega) h' with ⟨j, o2, h1, h2, h3, h4, h5, h6⟩ | ⟨h1, h2⟩
    ·refine .inl ⟨j, o2, by omega, h2, h3, h4, h5, fun m om hm1 hm2 hm3 => ?_⟩
     by_cases hmi : m = i
     ·subst hmi; rw [ho] at hm3; cases hm3; exact hd
     ·exact h6 m om hm1 (by omega) hm3
    ·refine .inr ⟨fun m om hm1 hm3 => ?_, h2⟩
     by_cases hmi : m = i
     ·subst hmi; rw [ho] at hm3; cases hm3; exact hd
     ·exact h1 m om (by omega) hm3
theorem xU {a : O} {t : Nat} (h : t ∈ Jq a.m \/ js9 a.g t = true) : zy a (some t) = true := by
 simp only [zy, yw]
 rcases h with h | h
 ·exact .inl (yk.2 h)
 ·exact .inr (.inl h)
theorem jO0 {a : O} {t : Nat} (h : a.dst = some t) : zy a (some t) = true := by
 simp only [zy, yw, h]
 exact .inr (.inr (by simp))
theorem Trace.tests (T : Trace P gt Φ nt ops 0 l R st) (hp : jf6 st.env) (hdr : ∀ (j : Nat) (a : O), l[j]? = some a -> ∀ (i : Nat) (b : O), l[i]? = some b -> i < j -> zy a b.dst = true \/ zy b a.dst = true -> Bf ops i j) : ∀ (i : Nat) (o' : O), l[i]? = some o' -> ∀ t ∈ js6 (T.gs i),
  ∃ k ok, l[k]? = some ok /\ k <= i /\ js9 ok.g t = true /\ (k = i \/ Bf ops k i) := by
 intro i
 induction i using Nat.strongRecOn with
 | _ i ih =>
   intro o' ho t ht
   obtain ⟨hg, _⟩ := T.step i o' ho
   obtain ⟨hg, _⟩ := xf hg
   have hilt : i < l.length := (List.getElem?_eq_some_iff.1 ho).1
   cases hgd : o'.g with
   | none => rw [hgd] at hg; simp [ji] at hg; rw [hg] at ht; simp [js6] at ht
   | some sp =>
     obtain ⟨s, pol⟩ := sp
     rw [hgd] at hg
     have hself : js9 o'.g s = true := by rw [hgd]; simp [js9]
     simp only [ji] at hg
     split at hg
     ·rename_i b hb
      simp at hg
      rw [<- hg] at ht
      simp [js6] at ht
      exact ⟨i, o', ho, Nat.le_refl _, by rw [ht]; exact hself, .inl rfl⟩
     ·rename_i x t' b hb
      cases hf : jh (x :: t') (T.env i) s with
      | false => simp [hf] at hg
      | true =>
        simp [hf] at hg
        rw [<- hg] at ht
        simp only [js6, List.map_cons, List.mem_cons] at ht
        rcases ht with rfl | ht
        ·exact ⟨i, o', ho, Nat.le_refl _, hself, .inl rfl⟩
        ·rcases T.cases i (by omega) hb with ⟨j, oj, h1, h2, h3, h4, h5, h6⟩ | ⟨h1, h2⟩
         ·have hbf : Bf ops j i := hdr i o' ho j oj h2 h1 (by
           refine .inl ?_
           rw [h3]; exact xU (.inr hself))
          obtain ⟨k, ok, h7, h8, h9, h10⟩ := ih j h1 oj h2 t (by rw [<- h4]; simpa [js6] using ht)
          refine ⟨k, ok, h7, by omega, h9, .inr ?_⟩
          rcases h10 with rfl | h10
          ·exact hbf
          ·exact h10.trans hbf
         ·rw [T.env0] at h2
          have := hp _ _ _ h2
          cases this
     ·cases hg
def QF (l : List O) (S : Nat -> Prop) (s i : Nat) : Prop := ∀ (j : Nat) (o' : O), l[j]? = some o' -> o'.dst = some s -> (S j ↔ j < i)
def kB (li : Array Bool) (j : Nat) : Prop := li.getD j false = true
def kO2 (l : List O) (p : Nat) : Prop := ∃ b a, l[p]? = some b /\ l[p + 1]? = some a /\ JC b a = true
def kU9 (T : Trace P gt Φ nt ops 0 l R st) (F : Fr) (li : Array Bool) (a : Act) (w : World) (p : Nat) (K : Kn) (pl : Pl) : Prop :=
 kO2 l p /\ ¬ kB li p /\ kB li (p + 1) /\ (∀ (j : Nat) (o' : O), l[j]? = some o' -> qd o'.m = true -> j ≠ p -> j ≠ p + 1 -> (kB li j ↔ j < p)) /\
  (∃ n es e', T.bxs (p + 2) = T.bxs p ++ (es ++ [e']) /\ es.length = n /\ Inv F K pl (T.bxs p ++ (qp n ++ [e'])) w) /\ ∀ s i, i <= l.length -> QF l (kB li) s i -> SlotOk K pl (T.env i) a s
structure PInv (T : Trace P gt Φ nt ops 0 l R st) (F : Fr) (dl : List Nat) (li : Array Bool) (a : Act) (w : World) : Prop where
 size : li.size = ops.size
 closed : Ve ops (kB li)
 slots : a.tmps.size = nt
 defers : a.defers = jC1 dl
 mem : (∃ K pl c, c <= l.length /\ (∀ (j : Nat) (o' : O), l[j]? = some o' -> qd o'.m = true -> (kB li j ↔ j < c)) /\ Inv F K pl (T.bxs c) w /\
  ∀ s i, i <= l.length -> QF l (kB li) s i -> SlotOk K pl (T.env i) a s) \/ ∃ p K pl, kU9 T F li a w p K pl
theorem Trace.bxs_const (T : Trace P gt Φ nt ops 0 l R st) (p : Nat) : ∀ (q : Nat), p <= q -> q <= l.length -> (∀ (j : Nat) (o' : O), p <= j -> j < q -> l[j]? = some o' -> qd o'.m = false) -> T.bxs q = T.bxs p
 | q, hpq, hq, h => by
   by_cases he : q = p
   ·rw [he]
   ·obtain ⟨q, rfl⟩ : ∃ r, q = r + 1 := ⟨q - 1, by omega⟩
    obtain ⟨o', ho⟩ : ∃ o', l[q]? = some o' := ⟨l[q], List.getElem?_eq_getElem (by omega)⟩
    rw [(T.step q o' ho).2.2.2.1 (h q o' (by omega) (by omega) ho)]
    exact Trace.bxs_const T p q (by omega) (by omega) fun j o2 h1 h2 => h j o2 h1 (by omega)
theorem Trace.agree (T : Trace P gt Φ nt ops 0 l R st) (L : List Nat) (p : Nat) : ∀ (q : Nat), p <= q -> q <= l.length -> (∀ (j : Nat) (o' : O), p <= j -> j < q -> l[j]? = some o' -> qd o'.m = true -> L = [] \/ ∃ L', Yw o' = some L' /\ ∀ k ∈ L, k ∉ L') -> kV5 L (T.bxs p) (T.bxs q)
 | q, hpq, hq, h => by
   by_cases he : q = p
   ·rw [he]; exact fun _ _ => rfl
   ·obtain ⟨q, rfl⟩ : ∃ r, q = r + 1 := ⟨q - 1, by omega⟩
    obtain ⟨o', ho⟩ : ∃ o', l[q]? = some o' := ⟨l[q], List.getElem?_eq_getElem (by omega)⟩
    have ih := Trace.agree T L p q (by omega) (by omega) fun j o2 h1 h2 => h j o2 h1 (by omega)
    obtain ⟨_, _, _, h1, _, h2, _⟩ := T.step q o' ho
    intro k hk
    rw [ih k hk]
    cases hef : qd o'.m with
    | false => rw [h1 hef]
    | true =>
      rcases h q o' (by omega) (by omega) ho hef with h3 | ⟨L', h3, h4⟩
      ·rw [h3] at hk; cases hk
      ·exact (h2 L' h3 k (h4 k hk)).symm
theorem jC0 {r : List Nat} : ∀ {l : List Nat}, ki7 l r = false -> ∀ k ∈ l, k ∉ r
 | [], _, k, h => by cases h
 | x :: l, h, k, hk => by
   simp only [ki7] at h
   cases hx : YI r x with
   | true => rw [hx] at h; cases h
   | false =>
     rw [hx] at h
     rcases List.mem_cons.1 hk with rfl | hk
     ·intro h2; rw [yk.2 h2] at hx; cases hx
     ·exact jC0 (l := l) h k hk
theorem jJ7 {a e : O} (h : Zx a e = false) : ∃ L, QB a = some L /\ (L = [] \/ ∃ L', Yw e = some L' /\ ∀ k ∈ L, k ∉ L') := by
 unfold Zx at h
 split at h
 ·rename_i h1; exact ⟨[], h1, .inl rfl⟩
 ·rename_i l r _ h1 h2; exact ⟨l, h1, .inr ⟨r, h2, jC0 h⟩⟩
 ·cases h
theorem zq {li : Array Bool} {i j : Nat} (hi : i < li.size) : kB (li.setIfInBounds i true) j ↔ j = i \/ kB li j := by
 unfold kB
 simp only [Array.getD_eq_getD_getElem?, Array.getElem?_setIfInBounds]
 by_cases h : i = j
 ·subst h; simp [hi]
 ·simp [h, Ne.symm h]
def jN3 (P : Program) (ops : Array Oper) (i : Nat) (dst : Option Nat) (z : List D) : Prop :=
 ∀ (a : Act) (w : World) (next : Act -> World -> Prop) (Q : Exit -> Act -> World -> Prop), (∀ t cs, yy z cs = true -> next (a.put dst (.pointer (some ⟨w.heap.size, 0, none⟩))) (w.alloc (.cells cs.toArray t))) -> vM P ops Q i next a w
theorem jy2 {neg : Bool} {t : TypeId} {x y : Operand} {z : List D} (hc : je7 P neg t x y = some (.alloc z)) : False := by
 unfold je7 at hc
 cases hx : qm P t x <;> simp [hx] at hc
 cases hy : qm P t y <;> simp [hy] at hc
 split at hc <;> first | (cases hc; done) | (obtain ⟨_, _, hm⟩ := map_some hc; cases hm)
theorem XO {b : Builtin} {args : List Operand} {ts : List TypeId} {z : List D} (hc : yn P b args ts = some (.alloc z)) : False := by
 unfold yn at hc
 split at hc
 ·split at hc
  ·obtain ⟨_, _, hm⟩ := map_some hc; cases hm
  ·obtain ⟨_, _, hm⟩ := map_some hc; cases hm
  ·cases hc
 ·rename_i x y t u
  cases h1 : qy P t <;> simp [h1] at hc
  cases h2 : qy P u <;> simp [h2] at hc
  cases h3 : qm P t x <;> simp [h3] at hc
  cases h4 : qm P u y <;> simp [h4] at hc
 ·rename_i x y t u
  cases h1 : qy P t <;> simp [h1] at hc
  cases h2 : qy P u <;> simp [h2] at hc
  cases h3 : qm P t x <;> simp [h3] at hc
  cases h4 : qm P u y <;> simp [h4] at hc
 ·rename_i x y t u
  split at hc
  ·rename_i e hu
   split at hc
   ·cases hi : P.info? e <;> simp [hi] at hc
    rename_i i
    cases hz : i.zero <;> simp [hz] at hc
    obtain ⟨_, hc⟩ := hc
    cases hx : qm P t x <;> simp [hx] at hc
    cases hy : qm P u y <;> simp [hy] at hc
   ·cases hc
  ·cases hc
 ·rename_i x y t u
  split at hc
  ·rename_i e hu
   split at hc
   ·cases hi : P.info? e <;> simp [hi] at hc
    obtain ⟨_, hc⟩ := hc
    cases hx : qm P t x <;> simp [hx] at hc
    cases hy : qm P u y <;> simp [hy] at hc
   ·cases hc
  ·cases hc
 ·cases hc
theorem jM5 {ty : TypeId} {op : Op} {z : List D} (hc : je6 P ty op = some (.alloc z)) : ∃ t, op = .alloc t /\ xB P t = some z := by
 unfold je6 at hc
 split at hc
 all_goals first
  | (obtain ⟨z', hz, hm⟩ := map_some hc; first | (cases hm; done) | (cases hm; exact ⟨_, rfl, hz⟩))
  | (exfalso; (repeat' split at hc) <;> first | (cases hc; done) | (obtain ⟨_, _, hm⟩ := map_some hc; cases hm; done) | exact jy2 hc | exact XO hc)
theorem kD1 {i : Nat} {o : Oper} {o' : O} {z : List D} (hc : Y3 P nt ops o o' = some o'.bare) (hi : ops[i]? = some o) (hm : o'.m = .alloc z) (hz : xL z = true) (hg : o'.g = none) : jN3 P ops i o'.dst z := by
 obtain ⟨h1, hdst, _, hgd⟩ := xR hc
 have hb : QE z = z := by
  unfold QE
  split
  ·simp [xL] at hz
  ·rfl
 rw [hm] at h1
 simp only [M.bare, hb] at h1
 obtain ⟨t, hop, hzo⟩ : ∃ t, o.op = .alloc t /\ xB P t = some z := by
  simp only [ju8, jW4] at h1
  split at h1
  ·rename_i m h2; cases h1; exact jM5 h2
  ·obtain ⟨q, xs, ts, xs', h2, _⟩ := jq5 h1
   cases h2
 have hno : o.guard = none := by
  cases ho : o.guard with
  | none => rfl
  | some jp =>
    obtain ⟨j, pol⟩ := jp
    rw [ho] at hgd
    obtain ⟨s, _, h2⟩ := hgd
    rw [hg] at h2; cases h2
 intro a w next Q hn
 have hw : Region.wanted o (yielded ops a.tmps) = true := by simp [Region.wanted, hno]
 obtain ⟨v, h2, h3, _⟩ := x6 hzo w
 obtain ⟨od, oo, oty, opos, oaf, og⟩ := o
 dsimp only at hop hdst
 subst hop
 have hrun : (execOp a.eval ⟨od, .alloc t, oty, opos, oaf, og⟩).run P w = .ok (.value (.pointer (some ⟨w.heap.size, 0, none⟩))) (w.alloc (.cells v.cells t)) := by
  simp [execOp, Instr.alloc, h2, yQ]
 simp only [vM, hi, hw, if_true]
 have := hn t v.cells.toList h3
 rw [hdst] at this
 exact xc hrun (by simpa using this)
theorem jZ9 (T : Trace P gt Φ nt ops 0 l R st) (hnt : ∀ (j : Nat) (o' : O) d, l[j]? = some o' -> o'.dst = some d -> d < nt) (hp : jf6 st.env)
  (hdr : ∀ (j : Nat) (a : O), l[j]? = some a -> ∀ (i : Nat) (b : O), l[i]? = some b -> i < j -> zy a b.dst = true \/ zy b a.dst = true -> Bf ops i j)
  (hgw : ∀ (j : Nat) (a : O), l[j]? = some a -> ∀ (i : Nat) (b : O) (d : Nat), l[i]? = some b -> b.dst = some d -> js9 a.g d = true -> i < j)
  {li : Array Bool} {a : Act} (hcl : Ve ops (kB li)) (hsz : a.tmps.size = nt) {i : Nat} {o' : O} (hil : i < li.size) (hnoti : ¬ kB li i) (ho : l[i]? = some o') (hnot : jk (T.gs i) o'.dst = true)
  {K K' : Kn} {pl pl' : Pl} (hslots : ∀ s i, i <= l.length -> QF l (kB li) s i -> SlotOk K pl (T.env i) a s) (h1 : KLe K K') (h2 : PLe pl pl') {v : Value}
  (h4 : qo a (T.gs i) -> Rep K' pl' (T.ds i) v) (h5 : ¬ qo a (T.gs i) -> v = undef) :
  ∀ s i', i' <= l.length -> QF l (kB (li.setIfInBounds i true)) s i' -> SlotOk K' pl' (T.env i') (a.put o'.dst v) s := by
 intro s i' hi' hcut
 have hbf' : ∀ k j, Bf ops k j -> kB li j -> kB li k := fun k j hk hj => hk.of hcl hj
 by_cases hsd : o'.dst = some s
 ·-- the slot that i writes
  have hii : i < i' := (hcut i o' ho hsd).1 ((zq hil).2 (.inl rfl))
  have hlast : ∀ m om, i < m -> m < i' -> l[m]? = some om -> om.dst ≠ some s := fun m om hm1 hm2 hm3 hm4 => by
   have h6 := (hcut m om hm3 hm4).2 hm2
   rw [zq hil] at h6
   rcases h6 with h6 | h6
   ·omega
   ·exact hnoti (hbf' i m (hdr m om hm3 i o' ho hm1 (.inr (by rw [hm4]; exact jO0 hsd))) h6)
  intro g d hget hf
  rcases T.cases i' hi' hget with ⟨j, oj, h6, h7, h8, h9, h10, h11⟩ | ⟨h6, h7⟩
  ·have hji : j = i := by
    rcases Nat.lt_trichotomy j i with h12 | h12 | h12
    ·exact absurd hsd (h11 i o' h12 hii ho)
    ·exact h12
    ·exact absurd h8 (hlast j oj h12 h6 h7)
   subst hji
   subst h9; subst h10
   rw [hsd] at hnot |-
   rw [VV (by rw [hsz]; exact hnt _ _ _ ho hsd), Z7 (d := some s) hnot]
   exact ⟨h4, h5⟩
  ·exact absurd hsd (h6 i o' hii ho)
 ·-- another slot
  have hcut' : QF l (kB li) s i' := fun j oj hj hd => by
   have h6 := hcut j oj hj hd
   rw [zq hil] at h6
   by_cases hji : j = i
   ·subst hji; rw [ho] at hj; cases hj; exact absurd hd hsd
   ·exact ⟨fun h7 => h6.1 (.inr h7), fun h7 => by rcases h6.2 h7 with h8 | h8; exact absurd h8 hji; exact h8⟩
  have h6 := (hslots s i' hi' hcut').mono h1 h2
  cases hdst : o'.dst with
  | none => simpa [Act.put] using h6
  | some t =>
    have hts : t ≠ s := fun e => hsd (by rw [hdst, e])
    intro g d hget hf
    have h7 := h6 g d hget hf
    rw [Ju hts]
    have hng : jk g (some t) = true := by
     rcases T.cases i' hi' hget with ⟨j, oj, h8, h9, h10, h11, h12, h13⟩ | ⟨h8, h9⟩
     ·subst h11
      have hjS : kB li j := (hcut' j oj h9 h10).2 h8
      have key : ∀ x ∈ js6 (T.gs j), x ≠ t := fun x hx e => by
       subst e
       obtain ⟨k, ok, k1, k2, k3, k4⟩ := T.tests hp hdr j oj h9 x hx
       have k5 := hgw k ok k1 i o' x ho hdst k3
       have k6 : Bf ops i k := hdr k ok k1 i o' ho k5 (.inl (by rw [hdst]; exact xU (.inr k3)))
       have k7 : kB li k := by
        rcases k4 with rfl | k4
        ·exact hjS
        ·exact hbf' k j k4 hjS
       exact hnoti (hbf' i k k6 k7)
      have gen : ∀ (g : G), (∀ x ∈ js6 g, x ≠ t) -> jg g t = true := by
       intro g
       induction g with
       | nil => intro _; rfl
       | cons p g ih =>
         obtain ⟨p1, p2⟩ := p
         intro hx
         simp only [jg, qw, ZU, beq_eq_false_iff_ne]
         exact ⟨hx p1 (by simp [js6]), ih fun x hx' => hx x (by simp [js6] at hx' |-; exact .inr hx')⟩
      exact gen _ key
     ·rw [T.env0] at h9
      rw [hp _ _ _ h9]; rfl
    rw [Z7 hng]
    exact h7
theorem Inv.addFresh {F : Fr} {K : Kn} {pl : Pl} {bx : List Ent} {w : World} (h : Inv F K pl bx w) : Inv F K pl (bx ++ [.fresh]) w := by
 have hcase : ∀ j f, (bx ++ [Ent.fresh])[j]? = some f -> bx[j]? = some f \/ (j = bx.length /\ f = .fresh) := fun j f hj => by
  rcases Nat.lt_trichotomy j bx.length with h1 | h1 | h1
  ·rw [List.getElem?_append_left h1] at hj; exact .inl hj
  ·subst h1; simp at hj; exact .inr ⟨rfl, hj.symm⟩
  ·rw [List.getElem?_eq_none (by simp; omega)] at hj; cases hj
 refine ⟨h.chg, h.mod, h.le, h.new, ⟨fun k e hk => ?_, fun i j e f b hij hi hj hb hb' => ?_, fun k ver hk => h.tab.free k ver (by simp at hk; omega)⟩, fun k e b hk hb => ?_, by have := h.len; simp; omega, h.keep, h.glob⟩
 ·rcases hcase k e hk with h1 | ⟨rfl, rfl⟩
  ·exact h.tab.ok k e h1
  ·exact fun ver => h.tab.free _ ver (Nat.le_refl _)
 ·rcases hcase i e hi with h1 | ⟨rfl, rfl⟩
  ·rcases hcase j f hj with h2 | ⟨rfl, rfl⟩
   ·exact h.tab.sep i j e f b hij h1 h2 hb hb'
   ·simp [jW] at hb'
  ·simp [jW] at hb
 ·rcases hcase k e hk with h1 | ⟨rfl, rfl⟩
  ·exact h.own k e b h1 hb
  ·simp [jW] at hb
theorem Inv.fill {F : Fr} {K : Kn} {pl : Pl} {bx : List Ent} {w : World} (h : Inv F K pl bx w) {k : Nat} (hk : bx[k]? = some .fresh) {l : List D} {cs : List Value} (T : TypeId) (hl : RepL K pl l cs) (h1 : ∀ c ∈ cs, c.oneCell' = true) :
  let pl' := qi pl k 0 (.pointer (some ⟨w.heap.size, 0, none⟩))
  PLe pl pl' /\ Inv F K pl' (bx.set k (.cells l)) (w.alloc (.cells cs.toArray T)) /\ Rep K pl' (.box k 0) (.pointer (some ⟨w.heap.size, 0, none⟩)) := by
 intro pl'
 have hp : PLe pl pl' := zX (h.tab.ok k _ hk 0)
 refine ⟨hp, ?_, by simp only [Rep]; exact ⟨_, jY _ _ _ _, rfl⟩⟩
 have hc := Chg.alloc w (.cells cs.toArray T)
 refine h.upd hk hp (fun k' ver hk' => qb (.inl hk')) (fun b hb => .inr ?_) ⟨hc.os, hc.tape, hc.output, hc.size, fun k hk' _ => hc.block k hk' id⟩ ⟨w.heap.size, T, cs, jY _ _ _ _, h.fresh, vh w _, RepL.mono (KLe.refl _) hp _ _ hl, h1⟩
 rw [vd (jY _ _ _ _)] at hb
 cases hb; exact Nat.le_refl _
theorem Inv.addFreshN {F : Fr} {K : Kn} {pl : Pl} {w : World} : ∀ (n : Nat) {bx : List Ent}, Inv F K pl bx w -> Inv F K pl (bx ++ qp n) w
 | 0, bx, h => by simpa [qp] using h
 | n + 1, bx, h => by
   have := Inv.addFreshN n h.addFresh
   simpa [qp, List.replicate_succ] using this
theorem Xu (n : Nat) : (qp n).length = n := by simp [qp]
theorem kD0 (T : Trace P gt Φ nt ops 0 l R st) (hlen : l.length = ops.size) (hnt : ∀ (j : Nat) (o' : O) d, l[j]? = some o' -> o'.dst = some d -> d < nt) (hp : jf6 st.env)
  (hdr : ∀ (j : Nat) (a : O), l[j]? = some a -> ∀ (i : Nat) (b : O), l[i]? = some b -> i < j -> jx8 a b = true -> Bf ops i j \/ (i + 1 = j /\ JC b a = true))
  (hgw : ∀ (j : Nat) (a : O), l[j]? = some a -> ∀ (i : Nat) (b : O) (d : Nat), l[i]? = some b -> b.dst = some d -> js9 a.g d = true -> i < j)
  (hal : ∀ (j : Nat) (o' : O) z, l[j]? = some o' -> o'.m = .alloc z -> xL z = true -> o'.g = none -> jN3 P ops j o'.dst z)
  {F : Fr} {dl : List Nat} (hFg : F.gt = gt /\ Φ F) {li : Array Bool} {a : Act} {w : World} (h : PInv T F dl li a w) {i : Nat} (hr : i ∈ Region.ready .any ops li) {next : Act -> World -> Prop} {Q : Exit -> Act -> World -> Prop}
  (hn : ∀ a' w', PInv T F dl (li.setIfInBounds i true) a' w' -> next a' w') : vM P ops Q i next a w := by
 obtain ⟨hun, oi, hoi, hall⟩ := mem_ready.1 hr
 have hilt : i < ops.size := (Array.getElem?_eq_some_iff.1 hoi).1
 have hil : i < li.size := by rw [h.size]; exact hilt
 obtain ⟨o', ho⟩ : ∃ o', l[i]? = some o' := ⟨l[i], List.getElem?_eq_getElem (by omega)⟩
 obtain ⟨hg, henv, hok⟩ := T.step i o' ho
 have e0 : 0 + i = i := by omega
 rw [e0] at hok
 have hnoti : ¬ kB li i := by
  unfold kB
  simp only [Array.getD_eq_getD_getElem?] at hun |-
  simp [hil] at hun |-; exact hun
 -- what comes ahead of i has been carried out
 have hbf : ∀ k, Bf ops k i -> kB li k := fun k hk => hk _ h.closed (fun o ho' e he hb => by
  rw [hoi] at ho'; cases ho'
  exact hall e he hb)
 have hbf' : ∀ k j, Bf ops k j -> kB li j -> kB li k := fun k j hk hj => hk.of h.closed hj
 have hdt : ∀ (j : Nat) (a : O), l[j]? = some a -> ∀ (i : Nat) (b : O), l[i]? = some b -> i < j -> zy a b.dst = true \/ zy b a.dst = true -> Bf ops i j := fun j a hj i b hi hij ht => by
  rcases hdr j a hj i b hi hij (by simp only [jx8, yw]; rcases ht with h | h; exact .inl h; exact .inr (.inl h)) with h1 | ⟨_, h1⟩
  ·exact h1
  ·obtain ⟨_, _, _, _, _, _, _, _, _, q1, q2⟩ := Y7 h1
   rcases ht with h | h
   ·rw [q1] at h; cases h
   ·rw [q2] at h; cases h
 have hcutm : ∀ s, zy o' (some s) = true -> QF l (kB li) s i := fun s hs j oj hj hd => by
  rcases Nat.lt_trichotomy j i with h1 | h1 | h1
  ·exact ⟨fun _ => h1, fun _ => hbf j (hdt i o' ho j oj hj h1 (.inl (by rw [hd]; exact hs)))⟩
  ·subst h1; exact ⟨fun h2 => absurd h2 hnoti, fun h2 => by omega⟩
  ·refine ⟨fun h2 => absurd (hbf' i j (hdt j oj hj i o' ho h1 (.inr (by rw [hd]; exact hs))) h2) hnoti, fun h2 => by omega⟩
 have hcutg : ∀ t ∈ js6 (T.gs i), QF l (kB li) t i := fun t ht j oj hj hd => by
  obtain ⟨k, ok, h1, h2, h3, h4⟩ := T.tests hp hdt i o' ho t ht
  have h5 := hgw k ok h1 j oj t hj hd h3
  have h6 : Bf ops j k := hdt k ok h1 j oj hj h5 (.inl (by rw [hd]; exact xU (.inr h3)))
  have h7 : Bf ops j i := by
   rcases h4 with rfl | h4
   ·exact h6
   ·exact h6.trans h4
  exact ⟨fun _ => by omega, fun _ => hbf j h7⟩
 have hnot := (xf hg).2
 have hclosed' : Ve ops (kB (li.setIfInBounds i true)) := fun j hj o2 ho2 e he hb => by
  rw [zq hil] at hj |-
  rcases hj with rfl | hj
  ·rw [hoi] at ho2; cases ho2
   exact .inr (hall e he hb)
  ·exact .inr (h.closed j hj o2 ho2 e he hb)
 -- what is written stands in the text's order, but for twins
 have hbb : ∀ (j : Nat) (oj : O), l[j]? = some oj -> qd oj.m = true -> (qd o'.m = true \/ Zx o' oj = true) -> j ≠ i -> ¬ (j + 1 = i /\ JC oj o' = true) -> ¬ (i + 1 = j /\ JC o' oj = true) -> (kB li j ↔ j < i) := fun j oj hj he hx hne ht1 ht2 => by
  have hx' : bO (qd o'.m) (Zx o' oj) = true := yw.2 hx
  rcases Nat.lt_trichotomy j i with h1 | h1 | h1
  ·refine ⟨fun _ => h1, fun _ => hbf j ?_⟩
   rcases hdr i o' ho j oj hj h1 (by simp only [jx8, yw]; exact .inr (.inr (.inr (qw.2 ⟨he, hx'⟩)))) with h2 | h2
   ·exact h2
   ·exact absurd h2 ht1
  ·exact absurd h1 hne
  ·refine ⟨fun h2 => ?_, fun h2 => by omega⟩
   rcases hdr j oj hj i o' ho h1 (by simp only [jx8, yw]; exact .inr (.inr (.inl (qw.2 ⟨he, yw.2 hx⟩)))) with h3 | h3
   ·exact absurd (hbf' i j h3 h2) hnoti
   ·exact absurd h3 ht2
 have hsl : ∀ {K K' : Kn} {pl pl' : Pl}, (∀ s i, i <= l.length -> QF l (kB li) s i -> SlotOk K pl (T.env i) a s) -> KLe K K' -> PLe pl pl' -> ∀ {v : Value}, (qo a (T.gs i) -> Rep K' pl' (T.ds i) v) -> (¬ qo a (T.gs i) -> v = undef) ->
   ∀ s i', i' <= l.length -> QF l (kB (li.setIfInBounds i true)) s i' -> SlotOk K' pl' (T.env i') (a.put o'.dst v) s := fun hs h1 h2 _ h4 h5 => jZ9 T hnt hp hdt hgw h.closed h.slots hil hnoti ho hnot hs h1 h2 h4 h5
 have hread : ∀ {K : Kn} {pl : Pl}, (∀ s i, i <= l.length -> QF l (kB li) s i -> SlotOk K pl (T.env i) a s) -> ∀ s ∈ Jq o'.m ++ js6 (T.gs i), SlotOk K pl (T.env i) a s := fun hs s hs' => by
  rcases List.mem_append.1 hs' with hs' | hs'
  ·exact hs s i (by omega) (hcutm s (xU (.inl hs')))
  ·exact hs s i (by omega) (hcutg s hs')
 -- the twins' own steps
 have htw : ∀ p b a', l[p]? = some b -> l[p + 1]? = some a' -> JC b a' = true -> ∃ z' L n es, a'.m = .alloc z' /\ Yw b = some L /\ Yw a' = some L /\ xL z' = true /\ b.g = none /\ a'.g = none /\
   T.gs (p + 1) = [] /\ T.bxs (p + 2) = T.bxs p ++ (es ++ [.cells z']) /\ es.length = n /\ T.ds (p + 1) = .box ((T.bxs p).length + n) 0 /\
   kq9 P gt Φ nt ops p b (T.gs p) (T.env p) (T.bxs p ++ (qp n ++ [.cells z'])) (T.ds p) (T.bxs (p + 2)) := fun p b a' hb ha ht => by
  obtain ⟨z', L, q1, q2, q3, q4, q5, q6, q8, _, _⟩ := Y7 ht
  obtain ⟨_, _, _, _, _, _, hb5, hb6⟩ := T.step p b hb
  obtain ⟨_, _, _, _, _, _, ha5, _⟩ := T.step (p + 1) a' ha
  obtain ⟨a1, a2, a3⟩ := ha5 z' q2 q8
  rw [qT] at a2
  rw [kK] at a3
  rcases q1 with ⟨z, q1, q7⟩ | ⟨n, f, xs, q1⟩
  ·obtain ⟨b1, b2, b3⟩ := hb5 z q1 q7
   rw [qT] at b2
   rw [b2] at a2 a3
   rw [kK] at b3
   refine ⟨z', L, 1, [.cells z], q2, by simp [Yw, q1, q5], by simp [Yw, q2, q6], q8, q3, q4, a1, by rw [a2]; simp, rfl, by rw [a3]; simp, ?_⟩
   intro F K pl w a hF hI hsz hs next Q hn
   refine hal _ _ z hb q1 q7 q3 a w next Q fun t cs hz => ?_
   obtain ⟨r1, r2⟩ := vO K pl hz
   obtain ⟨k1, k2, k3⟩ := hI.fill (k := (T.bxs p).length) (by simp [qp]) t r1 r2
   have hset : (T.bxs p ++ (qp 1 ++ [Ent.cells z'])).set (T.bxs p).length (.cells z) = T.bxs (p + 2) := by rw [a2]; simp [qp]
   rw [hset] at k2
   exact hn _ _ K _ (KLe.refl _) k1 k2 (fun _ => by rw [b3]; exact k3) (fun h1 => absurd (by rw [b1]; exact kF a) h1)
  ·obtain ⟨b1, ⟨es, b2, b3⟩, b4⟩ := hb6 n f xs q1
   rw [b2] at a2 a3
   have e0 : 0 + p = p := by omega
   rw [e0] at b4
   refine ⟨z', L, n, es, q2, by simp [Yw, q1, q5], by simp [Yw, q2, q6], q8, q3, q4, a1, by rw [a2]; simp, b3, by rw [a3]; simp [b3], ?_⟩
   have := b4 [.cells z']
   rw [b2] at this
   rwa [a2]
 rcases h.mem with ⟨K, pl, c, hc, hceff, hI, hslots⟩ | ⟨p, K, pl, ⟨ob, oa, hpb, hpa, htwin⟩, hunp, hlp, hceff, ⟨nf, zes, ze', hbx2, hznf, hI⟩, hslots⟩
 ·by_cases hN1 : ∃ p ob, i = p + 1 /\ l[p]? = some ob /\ JC ob o' = true /\ ¬ kB li p
  ·-- the second of two twins comes first
   obtain ⟨p, ob, rfl, hpb, htwin, hunp⟩ := hN1
   obtain ⟨z', L, n, es, m2, m3, m4, m6, m7, m8, g2, hb2, hn2, d2, _⟩ := htw p ob o' hpb ho htwin
   obtain ⟨heb, hea⟩ := QZ htwin
   have hcp : c <= p := by
    have := hceff p ob hpb heb
    exact Nat.le_of_not_lt fun h2 => hunp (this.2 h2)
   have hord : ∀ (j : Nat) (oj : O), l[j]? = some oj -> qd oj.m = true -> j ≠ p -> j ≠ p + 1 -> (kB li j ↔ j < p) := fun j oj hj he h1 h2 => by
    by_cases h3 : p + 1 + 1 = j /\ JC o' oj = true
    ·rw [hceff j oj hj he]; omega
    ·rw [hbb j oj hj he (.inl hea) h2 (fun h3 => h1 (by omega)) h3]; omega
   have hbx : T.bxs p = T.bxs c := T.bxs_const c p hcp (by omega) fun j oj h1 h2 h3 => by
    cases he : qd oj.m with
    | false => rfl
    | true =>
      have h4 := (hord j oj h3 he (by omega) (by omega)).2 (by omega)
      have := (hceff j oj h3 he).1 h4; omega
   rw [<- hbx] at hI
   refine hal _ o' z' ho m2 m6 m8 a w next Q fun t cs hz => hn _ _ ?_
   obtain ⟨r1, r2⟩ := vO K pl hz
   obtain ⟨k1, k2, k3⟩ := (hI.addFreshN n).newVar t r1 r2
   have hlen2 : (T.bxs p ++ qp n).length = (T.bxs p).length + n := by simp [Xu]
   rw [hlen2] at k1 k2 k3
   refine ⟨by simp [h.size], hclosed', by rw [JZ]; exact h.slots, by rw [xK]; exact h.defers, .inr ⟨p, K, _, ⟨ob, o', hpb, ho, htwin⟩, fun h1 => ?_, ?_, fun j oj hj he h1 h2 => ?_, ⟨n, es, _, hb2, hn2, by simpa using k2⟩, hsl hslots (KLe.refl _) k1 (fun _ => by rw [d2]; exact k3) (fun h1 => absurd (by rw [g2]; exact kF a) h1)⟩⟩
   ·rw [zq hil] at h1
    rcases h1 with h1 | h1
    ·omega
    ·exact hunp h1
   ·rw [zq hil]; exact .inl rfl
   ·rw [zq hil, <- hord j oj hj he h1 h2]
    exact ⟨fun h3 => h3.resolve_left h2, .inr⟩
  ·-- in the text's order
   have hbbN : ∀ (j : Nat) (oj : O), l[j]? = some oj -> qd oj.m = true -> (qd o'.m = true \/ Zx o' oj = true) -> j ≠ i -> (kB li j ↔ j < i) := fun j oj hj he hx hne => by
    by_cases ht1 : j + 1 = i /\ JC oj o' = true
    ·refine ⟨fun _ => by omega, fun _ => ?_⟩
     by_cases hlj : kB li j
     ·exact hlj
     ·exact absurd ⟨j, oj, ht1.1.symm, hj, ht1.2, hlj⟩ hN1
    ·by_cases ht2 : i + 1 = j /\ JC o' oj = true
     ·have h1 := hceff i o' ho (QZ ht2.2).1
      have h2 : ¬ i < c := fun h3 => hnoti (h1.2 h3)
      rw [hceff j oj hj he]
      omega
     ·exact hbb j oj hj he hx hne ht1 ht2
   -- the own memory is what the operation QB for
   have hmem : kq9 P gt Φ nt ops i o' (T.gs i) (T.env i) (T.bxs c) (T.ds i) (if qd o'.m then T.bxs (i + 1) else T.bxs c) := by
    obtain ⟨hok1, heff1, hlook, _⟩ := hok
    -- between c and i what is written has no part in it
    have between : ∀ (j : Nat) (oj : O), l[j]? = some oj -> qd oj.m = true -> (min c i <= j /\ j < max c i) -> ¬ (qd o'.m = true \/ Zx o' oj = true) := fun j oj hj he hb hx => by
     have h1 := hceff j oj hj he
     by_cases hji : j = i
     ·subst hji
      exact hnoti (h1.2 (by omega))
     ·have h2 := hbbN j oj hj he hx hji
      rw [h1] at h2
      omega
    cases he : qd o'.m with
    | true =>
      have hbx : T.bxs c = T.bxs i := by
       rcases Nat.le_total c i with h1 | h1
       ·exact (T.bxs_const c i h1 (by omega) fun j oj h2 h3 h4 => by
         cases he2 : qd oj.m with
         | false => rfl
         | true => exact absurd (.inl he) (between j oj h4 he2 (by omega))).symm
       ·exact T.bxs_const i c h1 hc fun j oj h2 h3 h4 => by
         cases he2 : qd oj.m with
         | false => rfl
         | true => exact absurd (.inl he) (between j oj h4 he2 (by omega))
      rw [hbx]; simpa using hok1
    | false =>
      simp only [Bool.false_eq_true, if_false]
      cases hl : QB o' with
      | none =>
        have hmc : ∀ oj, Zx o' oj = true := fun oj => by unfold Zx; rw [hl]
        have hbx : T.bxs c = T.bxs i := by
         rcases Nat.le_total c i with h1 | h1
         ·exact (T.bxs_const c i h1 (by omega) fun j oj h2 h3 h4 => by
           cases he2 : qd oj.m with
           | false => rfl
           | true => exact absurd (.inr (hmc oj)) (between j oj h4 he2 (by omega))).symm
         ·exact T.bxs_const i c h1 hc fun j oj h2 h3 h4 => by
           cases he2 : qd oj.m with
           | false => rfl
           | true => exact absurd (.inr (hmc oj)) (between j oj h4 he2 (by omega))
        rw [hbx]
        have := heff1 he
        rw [this] at hok1; exact hok1
      | some L =>
        refine hlook L hl (T.bxs c) ?_
        have far : ∀ (j : Nat) (oj : O), min c i <= j -> j < max c i -> l[j]? = some oj -> qd oj.m = true -> L = [] \/ ∃ L', Yw oj = some L' /\ ∀ k ∈ L, k ∉ L' := fun j oj h1 h2 h3 h4 => by
         cases hm : Zx o' oj with
         | true => exact absurd (.inr hm) (between j oj h3 h4 ⟨h1, h2⟩)
         | false =>
           obtain ⟨L2, h5, h6⟩ := jJ7 hm
           rw [hl] at h5; cases h5; exact h6
        rcases Nat.le_total c i with h1 | h1
        ·exact fun k hk => (T.agree L c i h1 (by omega) (fun j oj h2 h3 => far j oj (by omega) (by omega)) k hk).symm
        ·exact T.agree L i c h1 hc (fun j oj h2 h3 => far j oj (by omega) (by omega))
   refine hmem F K pl w a hFg hI h.slots (hread hslots) next Q fun v w' K' pl' h1 h2 h3 h4 h5 => hn _ _ ?_
   refine ⟨by simp [h.size], hclosed', by rw [JZ]; exact h.slots, by rw [xK]; exact h.defers, .inl ⟨K', pl', if qd o'.m then i + 1 else c, ?_, fun j oj hj he => ?_, ?_, hsl hslots h1 h2 h4 h5⟩⟩
   ·split <;> omega
   ·rw [zq hil]
    by_cases hji : j = i
    ·subst hji
     rw [ho] at hj; cases hj
     simp [he]
    ·have h7 := hceff j oj hj he
     split
     ·rename_i hei
      have h6 := hbbN j oj hj he (.inl hei) hji
      constructor
      ·rintro (h8 | h8)
       ·exact absurd h8 hji
       ·have := h6.1 h8; omega
      ·intro h8; exact .inr (h6.2 (by omega))
     ·constructor
      ·rintro (h8 | h8)
       ·exact absurd h8 hji
       ·exact h7.1 h8
      ·intro h8; exact .inr (h7.2 h8)
   ·split
    ·rename_i he; rw [if_pos he] at h3; exact h3
    ·rename_i he; rw [if_neg he] at h3; exact h3
 ·obtain ⟨z', L, n, es, m2, m3, m4, m6, m7, m8, g2, hb2, hn2, d2, hfst⟩ := htw p ob oa hpb hpa htwin
  obtain ⟨heb, hea⟩ := QZ htwin
  rw [hb2] at hbx2
  have hbx3 := List.append_cancel_left hbx2
  obtain ⟨hbx4, hbx5⟩ := List.append_inj' hbx3 rfl
  subst hbx4
  simp only [List.cons.injEq, and_true] at hbx5
  subst hbx5
  rw [hn2] at hznf
  subst hznf
  have hpl := (List.getElem?_eq_some_iff.1 hpa).1
  by_cases hip : i = p
  ·-- the first of the two comes now
   subst hip
   rw [hpb] at ho; cases ho
   refine hfst F K pl w a hFg hI h.slots (hread hslots) next Q fun v w' K' pl' h1 h2 h3 h4 h5 => hn _ _ ?_
   refine ⟨by simp [h.size], hclosed', by rw [JZ]; exact h.slots, by rw [xK]; exact h.defers, .inl ⟨K', pl', i + 2, by omega, fun j oj hj he => ?_, h3, hsl hslots h1 h2 h4 h5⟩⟩
   rw [zq hil]
   by_cases h1 : j = i
   ·exact ⟨fun _ => by omega, fun _ => .inl h1⟩
   ·by_cases h2 : j = i + 1
    ·exact ⟨fun _ => by omega, fun _ => .inr (by rw [h2]; exact hlp)⟩
    ·have h3 := hceff j oj hj he h1 h2
     exact ⟨fun h4 => by have := h3.1 (h4.resolve_left h1); omega, fun h4 => .inr (h3.2 (by omega))⟩
  ·-- another, that QB elsewhere
   have hip1 : i ≠ p + 1 := fun e => hnoti (by rw [e]; exact hlp)
   have hpure : qd o'.m = false := by
    cases he : qd o'.m with
    | false => rfl
    | true =>
      exfalso
      have h1 := hceff i o' ho he hip hip1
      have h2 : p < i := by
       rcases Nat.lt_or_ge i p with h2 | h2
       ·exact absurd (h1.2 h2) hnoti
       ·omega
      rcases hdr i o' ho p ob hpb h2 (by simp only [jx8, yw]; exact .inr (.inr (.inr (qw.2 ⟨heb, yw.2 (.inl he)⟩)))) with h3 | ⟨h3, _⟩
      ·exact hunp (hbf p h3)
      ·omega
   have hnotw : ∀ oj, JC oj o' = false /\ JC o' oj = false := fun oj => by
    constructor
    ·cases ht : JC oj o' with
     | false => rfl
     | true => have := (QZ ht).2; rw [this] at hpure; cases hpure
    ·cases ht : JC o' oj with
     | false => rfl
     | true => have := (QZ ht).1; rw [this] at hpure; cases hpure
   have hbbS : ∀ (j : Nat) (oj : O), l[j]? = some oj -> qd oj.m = true -> Zx o' oj = true -> (kB li j ↔ j < i) := fun j oj hj he hm => by
    refine hbb j oj hj he (.inr hm) (fun e => ?_) (fun h1 => ?_) (fun h1 => ?_)
    ·subst e; rw [ho] at hj; cases hj; rw [hpure] at he; cases he
    ·rw [(hnotw oj).1] at h1; cases h1.2
    ·rw [(hnotw oj).2] at h1; cases h1.2
   have hmcb : Zx o' ob = false := by
    cases hm : Zx o' ob with
    | false => rfl
    | true =>
      exfalso
      have hma : Zx o' oa = true := by rw [<- hm]; simp only [Zx, m3, m4]
      have h1 := hbbS p ob hpb heb hm
      have h2 := (hbbS (p + 1) oa hpa hea hma).1 hlp
      exact hunp (h1.2 (by omega))
   obtain ⟨L1, hl1, hL⟩ := jJ7 hmcb
   obtain ⟨_, _, _, _, _, hpb6, _, _⟩ := T.step p ob hpb
   obtain ⟨_, _, _, _, _, hpa6, _, _⟩ := T.step (p + 1) oa hpa
   have hav : ∀ k ∈ L1, k < (T.bxs p).length \/ (T.bxs p).length + n + 1 <= k := fun k hk => by
    rcases hL with h1 | ⟨L2, h1, h2⟩
    ·rw [h1] at hk; cases hk
    ·rw [m3] at h1; cases h1
     have h3 : jI (T.bxs (p + 2)) k = jI (T.bxs p) k := (hpa6 L m4 k (h2 k hk)).trans (hpb6 L m3 k (h2 k hk))
     rw [hb2, kG, kG] at h3
     rcases Nat.lt_or_ge k (T.bxs p).length with h4 | h4
     ·exact .inl h4
     ·rcases Nat.lt_or_ge k ((T.bxs p).length + n + 1) with h5 | h5
      ·rw [List.getElem?_eq_none (l := T.bxs p) h4, List.getElem?_eq_none_iff] at h3
       simp [hn2] at h3; omega
      ·exact .inr h5
   have hag : kV5 L1 (T.bxs p ++ (es ++ [.cells z'])) (T.bxs p ++ (qp n ++ [.cells z'])) := fun k hk => by
    rw [kG, kG]
    rcases hav k hk with h3 | h3
    ·rw [List.getElem?_append_left h3, List.getElem?_append_left h3]
    ·rw [List.getElem?_eq_none (by simp [hn2]; omega), List.getElem?_eq_none (by simp [Xu]; omega)]
   have hag0 : kV5 L1 (T.bxs p) (T.bxs p ++ (qp n ++ [.cells z'])) := fun k hk => by
    rw [kG, kG]
    rcases hav k hk with h3 | h3
    ·rw [List.getElem?_append_left h3]
    ·rw [List.getElem?_eq_none (by omega), List.getElem?_eq_none (by simp [Xu]; omega)]
   have far : ∀ (j : Nat) (oj : O), l[j]? = some oj -> qd oj.m = true -> j ≠ p -> j ≠ p + 1 -> (kB li j ↔ ¬ j < i) -> L1 = [] \/ ∃ L', Yw oj = some L' /\ ∀ k ∈ L1, k ∉ L' := fun j oj hj he h1 h2 h3 => by
    cases hm : Zx o' oj with
    | true =>
      exfalso
      have h4 := hbbS j oj hj he hm
      rw [h3] at h4
      by_cases h5 : j < i <;> simp [h5] at h4
    | false =>
      obtain ⟨L2, h5, h6⟩ := jJ7 hm
      rw [hl1] at h5; cases h5; exact h6
   have hagr : kV5 L1 (T.bxs i) (T.bxs p ++ (qp n ++ [.cells z'])) := by
    rcases Nat.lt_or_ge i p with h1 | h1
    ·have h2 := T.agree L1 i p (by omega) (by omega) fun j oj h3 h4 h5 h6 => far j oj h5 h6 (by omega) (by omega) (by rw [hceff j oj h5 h6 (by omega) (by omega)]; omega)
     exact fun k hk => (h2 k hk).trans (hag0 k hk)
    ·have h2 := T.agree L1 (p + 2) i (by omega) (by omega) fun j oj h3 h4 h5 h6 => far j oj h5 h6 (by omega) (by omega) (by rw [hceff j oj h5 h6 (by omega) (by omega)]; omega)
     exact fun k hk => (h2 k hk).symm.trans (by rw [hb2]; exact hag k hk)
   obtain ⟨_, _, hlook, _⟩ := hok
   refine hlook L1 hl1 _ hagr F K pl w a hFg hI h.slots (hread hslots) next Q fun v w' K' pl' h1 h2 h3 h4 h5 => hn _ _ ?_
   refine ⟨by simp [h.size], hclosed', by rw [JZ]; exact h.slots, by rw [xK]; exact h.defers, .inr ⟨p, K', pl', ⟨ob, oa, hpb, hpa, htwin⟩, fun h6 => ?_, ?_, fun j oj hj he h6 h7 => ?_, ⟨n, es, _, hb2, hn2, h3⟩, hsl hslots h1 h2 h4 h5⟩⟩
   ·rw [zq hil] at h6
    rcases h6 with h6 | h6
    ·exact hip h6.symm
    ·exact hunp h6
   ·rw [zq hil]; exact .inr hlp
   ·rw [zq hil, <- hceff j oj hj he h6 h7]
    refine ⟨fun h8 => h8.resolve_left fun e => ?_, .inr⟩
    subst e
    rw [ho] at hj; cases hj; rw [hpure] at he; cases he
end
end Go.AM
set_option linter.all false
namespace Go.AM
open Go Go.RowKit
theorem jb9 : ∀ {env : x4}, jo env = true -> jf6 env
 | [], _ => fun s g d h => by simp [get] at h
 | (t, [], d') :: r, h => fun s g d hget => by
   simp only [jo] at h
   simp only [get] at hget
   cases hts : t == s with
   | true => simp [hts] at hget; exact hget.1
   | false => simp [hts] at hget; exact jb9 h s g d hget
 | (_, _ :: _, _) :: _, h => by simp [jo] at h
section
variable {P : Program} {gt : Nat -> Option (List D)} {Φ : Fr -> Prop} {nt : Nat} {ops : Array Oper} {l : List O} {R : St -> Prop} {st : St}
def QY (li : Array Bool) (n : Nat) : Nat := ((List.range n).filter fun j => !(li.getD j true)).length
theorem XX {li : Array Bool} {n i : Nat} (hi : i < n) (hs : li.size = n) (h : li.getD i true = false) : QY (li.setIfInBounds i true) n + 1 = QY li n := by
 unfold QY
 have key : ∀ (l : List Nat), l.Nodup -> (∀ x ∈ l, x < n) -> (l.filter fun j => !((li.setIfInBounds i true).getD j true)).length + (if i ∈ l then 1 else 0) = (l.filter fun j => !(li.getD j true)).length := by
  intro l
  induction l with
  | nil => intro _ _; simp
  | cons x l ih =>
    intro hnd hlt
    have hnd' := List.nodup_cons.1 hnd
    have ih' := ih hnd'.2 (fun y hy => hlt y (by simp [hy]))
    by_cases hx : i = x
    ·subst hx
     have h1 : (li.setIfInBounds i true).getD i true = true := by simp [Array.getD_eq_getD_getElem?, Array.getElem?_setIfInBounds, hs, hi]
     simp only [List.filter_cons, h1, h, Bool.not_true, Bool.not_false, if_true, Bool.false_eq_true, if_false, List.length_cons, List.mem_cons, true_or]
     rw [if_neg hnd'.1] at ih'
     omega
    ·have h1 : (li.setIfInBounds i true).getD x true = li.getD x true := by simp [Array.getD_eq_getD_getElem?, Array.getElem?_setIfInBounds, hx]
     simp only [List.filter_cons, h1, List.mem_cons, hx, false_or]
     split
     ·simp only [List.length_cons]; omega
     ·exact ih'
 have := key (List.range n) List.nodup_range (fun x hx => List.mem_range.1 hx)
 rw [if_pos (List.mem_range.2 hi)] at this
 exact this
theorem jX2 {k : Nat} : ∀ {es : List Edge}, kk4 k es = true -> ∀ e ∈ es, Region.binds .any e = true -> e.on < k
 | [], _, e, he, _ => by simp at he
 | x :: es, h, e, he, hb => by
   simp only [kk4] at h
   have h := qw.1 h
   rcases List.mem_cons.1 he with rfl | he
   ·have := h.1
    rw [hb] at this
    simpa using this
   ·exact jX2 h.2 e he hb
theorem jX3 : ∀ {os : List Oper} {k : Nat}, jE4 k os = true -> ∀ j o, os[j]? = some o -> ∀ e ∈ o.after, Region.binds .any e = true -> e.on < k + j
 | [], _, _, _, _, h, _, _, _ => by simp at h
 | o :: os, k, h, j, o', hj, e, he, hb => by
   simp only [jE4] at h
   have h := qw.1 h
   cases j with
   | zero =>
     simp at hj; subst hj
     have := jX2 h.1 e (by simpa using he) hb
     omega
   | succ j =>
     have := jX3 h.2 j o' (by simpa using hj) e he hb
     omega
theorem kn3 {li : Array Bool} (hs : li.size = ops.size) (hback : ∀ (j : Nat) (o : Oper), ops[j]? = some o -> ∀ e ∈ o.after, Region.binds .any e = true -> e.on < j) (h : Region.ready .any ops li = []) : ∀ j, j < ops.size -> kB li j := by
 intro j
 induction j using Nat.strongRecOn with
 | _ j ih =>
   intro hj
   cases hl : li.getD j true with
   | true => unfold kB; simp only [Array.getD_eq_getD_getElem?] at hl |-; simp [show j < li.size by omega] at hl |-; exact hl
   | false =>
     exfalso
     have : j ∈ Region.ready .any ops li := mem_ready.2 ⟨hl, ops[j], Array.getElem?_eq_getElem hj, fun e he hb => by
      have h1 := hback j ops[j] (Array.getElem?_eq_getElem hj) e he hb
      exact ih e.on h1 (by omega)⟩
     rw [h] at this; cases this
theorem kH6 (ro : Option Nat) (n : Nat) (hnd : ∀ (j : Nat) (o1 : Oper), ops[j]? = some o1 -> ∀ c, o1.op ≠ .defer c) (T : Trace P gt Φ nt ops 0 l R st) (hlen : l.length = ops.size) (hnt : ∀ (j : Nat) (o' : O) d, l[j]? = some o' -> o'.dst = some d -> d < nt) (hp : jf6 st.env)
  (hdr : ∀ (j : Nat) (a : O), l[j]? = some a -> ∀ (i : Nat) (b : O), l[i]? = some b -> i < j -> jx8 a b = true -> Bf ops i j \/ (i + 1 = j /\ JC b a = true))
  (hgw : ∀ (j : Nat) (a : O), l[j]? = some a -> ∀ (i : Nat) (b : O) (d : Nat), l[i]? = some b -> b.dst = some d -> js9 a.g d = true -> i < j)
  (hal : ∀ (j : Nat) (o' : O) z, l[j]? = some o' -> o'.m = .alloc z -> xL z = true -> o'.g = none -> jN3 P ops j o'.dst z)
  (hback : ∀ (j : Nat) (o : Oper), ops[j]? = some o -> ∀ e ∈ o.after, Region.binds .any e = true -> e.on < j)
  {F : Fr} {dl : List Nat} (hFg : F.gt = gt /\ Φ F) {Q : Exit -> Act -> World -> Prop} (hQ : ∀ a w st, R st -> Den nt F dl st a w -> Q .normal a w) :
  ∀ (fuel : Nat) (li : Array Bool) (a : Act) (w : World), QY li ops.size = fuel -> PInv T F dl li a w -> wpAnyIn (wr ro) n P .any ops Q fuel li a w := by
 have hend : ∀ (li : Array Bool) (a : Act) (w : World), PInv T F dl li a w -> Region.ready .any ops li = [] -> Q .normal a w := fun li a w h hr => by
  have hall := kn3 h.size hback hr
  rcases h.mem with hmem | ⟨p, K, pl, ⟨_, _, hpb, _, _⟩, hunp, _⟩
  case inr =>
   have := (List.getElem?_eq_some_iff.1 hpb).1
   exact absurd (hall p (by omega)) hunp
  obtain ⟨K, pl, c, hc, hceff, hI, hslots⟩ := hmem
  have hbx : T.bxs l.length = T.bxs c := T.bxs_const c l.length hc (Nat.le_refl _) fun j oj h1 h2 h3 => by
   cases he : qd oj.m with
   | false => rfl
   | true => have := (hceff j oj h3 he).1 (hall j (by omega)); omega
  refine hQ a w _ T.last ⟨h.slots, h.defers, K, pl, by rw [hbx]; exact hI, fun s => hslots s l.length (Nat.le_refl _) fun j oj hj _ => ?_⟩
  have hjl := (List.getElem?_eq_some_iff.1 hj).1
  exact ⟨fun _ => hjl, fun _ => hall j (by omega)⟩
 intro fuel
 induction fuel with
 | zero =>
   intro li a w hu h
   have hr : Region.ready .any ops li = [] := by
    cases hr : Region.ready .any ops li with
    | nil => rfl
    | cons i r =>
      have hi : i ∈ Region.ready .any ops li := by rw [hr]; simp
      obtain ⟨hun, oi, hoi, _⟩ := mem_ready.1 hi
      have := XX (Array.getElem?_eq_some_iff.1 hoi).1 h.size hun
      omega
   exact ⟨hr, hend li a w h hr⟩
 | succ fuel ih =>
   intro li a w hu h
   refine ⟨hend li a w h, fun i hi => ?_⟩
   obtain ⟨hun, oi, hoi, _⟩ := mem_ready.1 hi
   have hset := XX (Array.getElem?_eq_some_iff.1 hoi).1 h.size hun
   exact jm7 ro n (hnd i) (kD0 T hlen hnt hp hdr hgw hal hFg h hi fun a' w' h' => ih _ a' w' (by omega) h')
theorem ju7 : ∀ {os : List Oper} {l : List O}, v8 P nt ops os l = some (Ja l) -> l.length = os.length /\ ∀ (j : Nat) (o' : O), l[j]? = some o' -> ∃ o, os[j]? = some o /\ Y3 P nt ops o o' = some o'.bare
 | [], [], h => ⟨rfl, fun j o' h => by simp at h⟩
 | [], _ :: _, h => by simp [v8, Ja] at h
 | o :: os, [], h => by simp [v8, Ja] at h
 | o :: os, a :: l', h => by
   simp only [v8, Ja] at h
   split at h
   ·rename_i ab lb ha hl
    simp only [Option.some.injEq, List.cons.injEq] at h
    obtain ⟨rfl, rfl⟩ := h
    obtain ⟨h1, h2⟩ := ju7 hl
    refine ⟨by simp [h1], fun j o' hj => ?_⟩
    cases j with
    | zero => simp at hj; subst hj; exact ⟨o, by simp, ha⟩
    | succ j => obtain ⟨o2, h3, h4⟩ := h2 j o' (by simpa using hj); exact ⟨o2, by simpa using h3, h4⟩
   ·cases h
/-! ### One variable that may be made early -/
structure PFl (T : Trace P gt Φ nt ops 0 l R st) (F : Fr) (li : Array Bool) (a : Act) (w : World) (q d : Nat) (z : List D) (c : Nat) (K : Kn) (pl : Pl) (b0 : Nat) : Prop where
 cq : c <= q
 lq : kB li q
 eff : ∀ (j : Nat) (o' : O), l[j]? = some o' -> qd o'.m = true -> j ≠ q -> (kB li j ↔ j < c)
 inv : Inv F K pl (T.bxs c) w
 blk : ∃ t cs, w.heap[b0]? = some (.cells cs.toArray t (0, 0)) /\ yy z cs = true
 new : F.w.heap.size <= b0
 kn : K b0 = none
 own : ¬ Own pl (T.bxs c) b0
 val : a.tmps.getD d undef = .pointer (some ⟨b0, 0, none⟩)
 slots : ∀ s i, s ≠ d -> i <= l.length -> QF l (kB li) s i -> SlotOk K pl (T.env i) a s
def PNo (T : Trace P gt Φ nt ops 0 l R st) (F : Fr) (li : Array Bool) (a : Act) (w : World) (c : Nat) (K : Kn) (pl : Pl) : Prop :=
 c <= l.length /\ (∀ (j : Nat) (o' : O), l[j]? = some o' -> qd o'.m = true -> (kB li j ↔ j < c)) /\ Inv F K pl (T.bxs c) w /\ ∀ s i, i <= l.length -> QF l (kB li) s i -> SlotOk K pl (T.env i) a s
structure PInvF (T : Trace P gt Φ nt ops 0 l R st) (F : Fr) (dl : List Nat) (li : Array Bool) (a : Act) (w : World) (q d : Nat) (z : List D) : Prop where
 size : li.size = ops.size
 closed : Ve ops (kB li)
 slots : a.tmps.size = nt
 defers : a.defers = jC1 dl
 mem : (∃ c K pl, PNo T F li a w c K pl) \/ ∃ c K pl b0, PFl T F li a w q d z c K pl b0
theorem jH5 (ro : Option Nat) (n : Nat) {id : Nat} {draw : Bool} (hm : P.follows .mixedOrders = true) (hc : v8 P nt ops ops.toList l = some (Ja l)) (hd : draw = false \/ (VY [] [] ops.toList l = true /\ jE4 0 ops.toList = true)) (hp : jf6 st.env)
  {F : Fr} {dl : List Nat} (hΦ : Φ F) (hFg : F.gt = gt) {Q : Exit -> Act -> World -> Prop} (hQ : ∀ a w st, R st -> Den nt F dl st a w -> Q .normal a w) (hr : qj (jX6 P gt Φ) gt l R st) {a : Act} {w : World} (hden : Den nt F dl st a w) :
  (Code.region id ops draw).wpIn (wr ro) n P Q a w := by
 have hk : ∀ j, ops.toList[j]? = ops[0 + j]? := fun j => by simp
 cases draw with
 | false =>
   subst hFg
   refine wpIn_region ?_
   rw [List.range_eq_range']
   have := jI7 (F := F) hΦ ro n hQ ops.toList l 0 st a w hc hk hr hden
   simpa using this
 | true =>
   rcases hd with hd | ⟨hd, hb⟩
   ·cases hd
   obtain ⟨T⟩ := XY ops.toList l 0 st hc hk (jW2 hd) hr
   obtain ⟨hlen, hget⟩ := ju7 hc
   have hspec := jt8 (ops := ops) l [] [] ops.toList hd (fun j => by simp) rfl (fun j k h => by cases j <;> simp [jq9] at h)
   obtain ⟨hsz, hdf, K, pl, hI, hs⟩ := hden
   refine wpIn_region_any hm ?_
   have hlen' : l.length = ops.size := by simpa using hlen
   refine kH6 ro n (fun j o1 ho1 => ?_) T hlen' (fun j o' d hj hd => ?_) hp (fun j a' hj i b hi hij hcf => ?_) (fun j a' hj i b d hi hbd hg => hspec.2 j a' hj i b d hi hbd hg) (fun j o' z hj hm hz hg => ?_) (fun j o ho e he hbd => ?_) (F := F) ⟨hFg, hΦ⟩ hQ ops.size _ a _ ?_ ?_
   ·have hjl : j < l.length := by have := (Array.getElem?_eq_some_iff.1 ho1).1; omega
    obtain ⟨o2, ho2, hco2⟩ := hget j l[j] (List.getElem?_eq_getElem hjl)
    have e : o1 = o2 := by
     have h3 : ops[j]? = some o2 := by simpa using ho2
     rw [h3] at ho1; exact (Option.some.inj ho1).symm
    rw [e]; exact Y2 hco2
   ·obtain ⟨o, ho, hco⟩ := hget j o' hj
    obtain ⟨_, hdst, hlt, _⟩ := xR hco
    exact hlt d (by rw [<- hdst]; exact hd)
   ·have := hspec.1 j a' hj i b (by simpa using hi) (by simpa using hij) hcf
    simpa using this
   ·obtain ⟨o, ho, hco⟩ := hget j o' hj
    exact kD1 hco (by simpa using ho) hm hz hg
   ·have := jX3 hb j o (by simpa using ho) e he hbd
    omega
   ·unfold QY
    rw [List.filter_eq_self.2 (fun x hx => by
     have := List.mem_range.1 hx
     simp [Array.getD_eq_getD_getElem?, this])]
    simp
   ·have hno : ∀ j, ¬ kB (Array.replicate ops.size false) j := fun j h => by
     unfold kB at h
     simp only [Array.getD_eq_getD_getElem?, Array.getElem?_replicate] at h
     split at h <;> simp at h
    refine ⟨by simp, fun j hj => absurd hj (hno j), hsz, hdf, .inl ⟨K, pl, 0, Nat.zero_le _, fun j oj _ _ => ⟨fun h => absurd h (hno j), fun h => by omega⟩, ?_, fun s i hi hcut => ?_⟩⟩
    ·rw [T.bx0]; exact ⟨hI.chg.trans (S' := fun _ => False) ⟨rfl, rfl, rfl, Nat.le_refl _, fun _ _ _ => rfl⟩ (fun _ _ h => h.elim), hI.mod, hI.le, hI.new, hI.tab.move (KLe.refl _) (fun b _ h3 _ => ⟨rfl, h3⟩), hI.own, hI.len, hI.keep, hI.glob⟩
    ·intro g d hg hf
     rcases T.cases i hi hg with ⟨j, oj, h1, h2, h3, _⟩ | ⟨h1, h2⟩
     ·exact absurd ((hcut j oj h2 h3).2 h1) (hno j)
     ·rw [T.env0] at h2
      have h3 := hp _ _ _ h2
      subst h3
      exact hs s [] d h2 (.inl rfl)
end
end Go.AM
set_option linter.all false
namespace Go.AM
open Go Go.RowKit
def exO : Ex -> Exit
 | .nrm => .normal
 | .exit id => .exit id
 | .ret => .ret
theorem js8 {env : x4} {s : Nat} {g : G} {d : D} : ∀ {ks : List Nat}, get (jr env ks) s = some (g, d) -> g = [] /\ get env s = some ([], d)
 | [], h => by simp [jr, get] at h
 | k :: ks, h => by
   simp only [jr] at h
   split at h
   ·rename_i d' hd
    simp only [get] at h
    cases hks : k == s with
    | true =>
      simp [hks] at h
      obtain ⟨rfl, rfl⟩ := h
      have : k = s := by simpa using hks
      subst this
      exact ⟨rfl, kP8 hd⟩
    | false => simp [hks] at h; exact js8 h
   ·exact js8 h
theorem Den.keep {nt : Nat} {F : Fr} {dl : List Nat} {st : St} {a : Act} {w : World} (h : Den nt F dl st a w) (ks : Option (List Nat)) : Den nt F dl (jt ks st) a w := by
 cases ks with
 | none => exact h
 | some ks =>
   obtain ⟨h1, h2, K, pl, h3, h4⟩ := h
   refine ⟨h1, h2, K, pl, h3, fun s g d hg hf => ?_⟩
   obtain ⟨rfl, h5⟩ := js8 hg
   exact h4 s [] d h5 (.inl rfl)
/-! ### Forgetting -/
def Jw (n : Nat) (pl : Pl) : Pl := fun k v => if k < n then pl k v else none
theorem qD {n : Nat} {pl : Pl} {k v : Nat} (h : k < n) : Jw n pl k v = pl k v := by simp [Jw, h]
theorem jW3 {n : Nat} {pl : Pl} {k v : Nat} (h : n <= k) : Jw n pl k v = none := by simp [Jw, Nat.not_lt.2 h]
theorem zo {a b : Nat} : Nat.blt a b = true ↔ a < b := by
 unfold Nat.blt; rw [Nat.ble_eq]; omega
mutual
theorem jJ9 {n : Nat} {K : Kn} {pl : Pl} : ∀ (d : D) (v : Value), low n d = true -> Rep K pl d v -> Rep K (Jw n pl) d v
 | .int _ _, _, _, h => by simpa [Rep] using h
 | .bool _, _, _, h => by simpa [Rep] using h
 | .str _, _, _, h => by simpa [Rep] using h
 | .ls _ _, _, _, h => by simpa [Rep] using h
 | .el _ _ _ _, _, _, h => by simpa [Rep] using h
 | .any, _, _, h => by simpa [Rep] using h
 | .mp _ _, _, _, h => by simpa [Rep] using h
 | .nil, _, _, h => by simpa only [Rep] using h
 | .glob _ _, _, _, h => by simpa [Rep] using h
 | .ifc b, _, _, h => by simpa only [Rep] using h
 | .osl k _ _ _ _, v, hl, h => by
   simp only [Rep] at h |-
   obtain ⟨a, n, c, h1, h2⟩ := h
   exact ⟨a, n, c, by rw [qD (zo.1 (by simpa [low] using hl))]; exact h1, h2⟩
 | .yld k, v, hl, h => by
   simp only [Rep] at h |-
   obtain ⟨b, h1, h2⟩ := h
   exact ⟨b, by rw [qD (zo.1 (by simpa [low] using hl))]; exact h1, h2⟩
 | .fn f l, v, hl, h => by
   simp only [Rep] at h |-
   obtain ⟨cs, h1, h2⟩ := h
   exact ⟨cs, h1, yh l cs (by simpa [low] using hl) h2⟩
 | .boxi k _, v, hl, h => by
   simp only [Rep] at h |-
   rw [qD (zo.1 (by simpa [low] using hl))]; exact h
 | .bsl k _ _ _, v, hl, h => by
   simp only [Rep] at h |-
   rw [qD (zo.1 (by simpa [low] using hl))]; exact h
 | .ownm k _, v, hl, h => by
   simp only [Rep] at h |-
   rw [qD (zo.1 (by simpa [low] using hl))]; exact h
 | .agg l, v, hl, h => by
   simp only [Rep] at h |-
   obtain ⟨cs, h1, h2, h3⟩ := h
   exact ⟨cs, h1, yh l cs (by simpa [low] using hl) h2, h3⟩
 | .tup l, v, hl, h => by
   simp only [Rep] at h |-
   obtain ⟨cs, h1, h2⟩ := h
   exact ⟨cs, h1, yh l cs (by simpa [low] using hl) h2⟩
 | .box k _, v, hl, h => by
   simp only [Rep] at h |-
   rw [qD (zo.1 (by simpa [low] using hl))]; exact h
 | .own k _, v, hl, h => by
   simp only [Rep] at h |-
   rw [qD (zo.1 (by simpa [low] using hl))]; exact h
 | .elo k _ _ _ _, v, hl, h => by
   simp only [Rep] at h |-
   rw [qD (zo.1 (by simpa [low] using hl))]; exact h
theorem yh {n : Nat} {K : Kn} {pl : Pl} : ∀ (l : List D) (vs : List Value), vb n l = true -> RepL K pl l vs -> RepL K (Jw n pl) l vs
 | [], _, _, h => by simpa [RepL] using h
 | d :: l, vs, hl, h => by
   simp only [RepL] at h |-
   obtain ⟨v, r, h1, h2, h3⟩ := h
   simp only [vb, Bool.and_eq_true] at hl
   exact ⟨v, r, h1, jJ9 d v hl.1 h2, yh l r hl.2 h3⟩
end
theorem jO2 : ∀ {env env' : x4} {s : Nat} {g : G} {d : D}, kl5 env env' -> get env' s = some (g, d) -> get env s = some (g, d)
 | _, [], _, _, _, _, h => by simp [get] at h
 | env, (t, g', d') :: r, s, g, d, hs, h => by
   simp only [kl5] at hs
   simp only [get] at h
   cases hts : t == s with
   | true =>
     simp [hts] at h
     have : t = s := by simpa using hts
     subst this
     rw [hs.1, h.1, h.2]
   | false => simp [hts] at h; exact jO2 hs.2 h
theorem Q1 : ∀ {bx bx' : List Ent} {k : Nat} {e : Ent}, Vf bx bx' -> bx'[k]? = some e -> bx[k]? = some e
 | _, [], _, _, _, h => by simp at h
 | [], _ :: _, _, _, h, _ => h.elim
 | x :: l, y :: r, k, e, hs, h => by
   simp only [Vf] at hs
   cases k with
   | zero => simp at h |-; rw [hs.1, h]
   | succ k => simp at h |-; exact Q1 hs.2 h
theorem jU1 {n : Nat} : ∀ {env : x4} {s : Nat} {g : G} {d : D}, jx2 n env = true -> get env s = some (g, d) -> g = [] /\ low n d = true
 | [], _, _, _, _, h => by simp [get] at h
 | (t, [], d') :: r, s, g, d, hl, h => by
   simp only [jx2, Bool.and_eq_true] at hl
   simp only [get] at h
   cases hts : t == s with
   | true => simp [hts] at h; obtain ⟨rfl, rfl⟩ := h; exact ⟨rfl, hl.1⟩
   | false => simp [hts] at h; exact jU1 hl.2 h
 | (_, _ :: _, _) :: _, _, _, _, h, _ => by simp [jx2] at h
theorem vA {n : Nat} : ∀ {bx : List Ent} {k : Nat} {l : List D}, k8 n bx = true -> bx[k]? = some (.cells l) -> vb n l = true
 | [], _, _, _, h => by simp at h
 | .cells m :: r, k, l, hl, h => by
   simp only [k8, Bool.and_eq_true] at hl
   cases k with
   | zero => simp at h; subst h; exact hl.1
   | succ k => simp at h; exact vA hl.2 h
 | .arr _ _ _ m :: r, k, l, hl, h => by
   simp only [k8] at hl
   cases k with
   | zero => simp at h
   | succ k => simp at h; exact vA hl h
 | .gone :: r, k, l, hl, h => by
   simp only [k8] at hl
   cases k with
   | zero => simp at h
   | succ k => simp at h; exact vA hl h
 | .fresh :: r, k, l, hl, h => by
   simp only [k8] at hl
   cases k with
   | zero => simp at h
   | succ k => simp at h; exact vA hl h
 | .obj _ :: r, k, l, hl, h => by
   simp only [k8] at hl
   cases k with
   | zero => simp at h
   | succ k => simp at h; exact vA hl h
 | .map _ _ :: r, k, l, hl, h => by
   simp only [k8, Bool.and_eq_true] at hl
   cases k with
   | zero => simp at h
   | succ k => simp at h; exact vA hl.2.2 h
 | .iter _ _ _ :: r, k, l, hl, h => by
   simp only [k8] at hl
   cases k with
   | zero => simp at h
   | succ k => simp at h; exact vA hl h
 | .mapx _ _ _ :: r, k, l, hl, h => by
   simp only [k8] at hl
   cases k with
   | zero => simp at h
   | succ k => simp at h; exact vA hl h
 | .tcells _ _ :: r, k, l, hl, h => by
   simp only [k8, Bool.and_eq_true] at hl
   cases k with
   | zero => simp at h
   | succ k => simp at h; exact vA hl.2 h
 | .ito _ _ _ _ _ :: r, k, l, hl, h => by
   simp only [k8] at hl
   cases k with
   | zero => simp at h
   | succ k => simp at h; exact vA hl h
theorem zZ {n : Nat} : ∀ {bx : List Ent} {k : Nat} {T : TypeId} {l : List D}, k8 n bx = true -> bx[k]? = some (.tcells T l) -> vb n l = true
 | [], _, _, _, _, h => by simp at h
 | .cells m :: r, k, T, l, hl, h => by
   simp only [k8, Bool.and_eq_true] at hl
   cases k with
   | zero => simp at h
   | succ k => simp at h; exact zZ hl.2 h
 | .arr _ _ _ m :: r, k, T, l, hl, h => by
   simp only [k8] at hl
   cases k with
   | zero => simp at h
   | succ k => simp at h; exact zZ hl h
 | .gone :: r, k, T, l, hl, h => by
   simp only [k8] at hl
   cases k with
   | zero => simp at h
   | succ k => simp at h; exact zZ hl h
 | .fresh :: r, k, T, l, hl, h => by
   simp only [k8] at hl
   cases k with
   | zero => simp at h
   | succ k => simp at h; exact zZ hl h
 | .obj _ :: r, k, T, l, hl, h => by
   simp only [k8] at hl
   cases k with
   | zero => simp at h
   | succ k => simp at h; exact zZ hl h
 | .map _ _ :: r, k, T, l, hl, h => by
   simp only [k8, Bool.and_eq_true] at hl
   cases k with
   | zero => simp at h
   | succ k => simp at h; exact zZ hl.2.2 h
 | .iter _ _ _ :: r, k, T, l, hl, h => by
   simp only [k8] at hl
   cases k with
   | zero => simp at h
   | succ k => simp at h; exact zZ hl h
 | .mapx _ _ _ :: r, k, T, l, hl, h => by
   simp only [k8] at hl
   cases k with
   | zero => simp at h
   | succ k => simp at h; exact zZ hl h
 | .tcells _ _ :: r, k, T, l, hl, h => by
   simp only [k8, Bool.and_eq_true] at hl
   cases k with
   | zero => simp at h; obtain ⟨rfl, rfl⟩ := h; exact hl.1
   | succ k => simp at h; exact zZ hl.2 h
 | .ito _ _ _ _ _ :: r, k, T, l, hl, h => by
   simp only [k8] at hl
   cases k with
   | zero => simp at h
   | succ k => simp at h; exact zZ hl h
theorem vz {n : Nat} : ∀ {bx : List Ent} {k : Nat} {ks vs : List D}, k8 n bx = true -> bx[k]? = some (.map ks vs) -> vb n vs = true
 | [], _, _, _, _, h => by simp at h
 | .cells m :: r, k, ks, vs, hl, h => by
   simp only [k8, Bool.and_eq_true] at hl
   cases k with
   | zero => simp at h
   | succ k => simp at h; exact vz hl.2 h
 | .arr _ _ _ m :: r, k, ks, vs, hl, h => by
   simp only [k8] at hl
   cases k with
   | zero => simp at h
   | succ k => simp at h; exact vz hl h
 | .gone :: r, k, ks, vs, hl, h => by
   simp only [k8] at hl
   cases k with
   | zero => simp at h
   | succ k => simp at h; exact vz hl h
 | .fresh :: r, k, ks, vs, hl, h => by
   simp only [k8] at hl
   cases k with
   | zero => simp at h
   | succ k => simp at h; exact vz hl h
 | .obj _ :: r, k, ks, vs, hl, h => by
   simp only [k8] at hl
   cases k with
   | zero => simp at h
   | succ k => simp at h; exact vz hl h
 | .iter _ _ _ :: r, k, ks, vs, hl, h => by
   simp only [k8] at hl
   cases k with
   | zero => simp at h
   | succ k => simp at h; exact vz hl h
 | .mapx _ _ _ :: r, k, ks, vs, hl, h => by
   simp only [k8] at hl
   cases k with
   | zero => simp at h
   | succ k => simp at h; exact vz hl h
 | .tcells _ _ :: r, k, ks, vs, hl, h => by
   simp only [k8, Bool.and_eq_true] at hl
   cases k with
   | zero => simp at h
   | succ k => simp at h; exact vz hl.2 h
 | .ito _ _ _ _ _ :: r, k, ks, vs, hl, h => by
   simp only [k8] at hl
   cases k with
   | zero => simp at h
   | succ k => simp at h; exact vz hl h
 | .map _ _ :: r, k, ks, vs, hl, h => by
   simp only [k8, Bool.and_eq_true] at hl
   cases k with
   | zero => simp at h; obtain ⟨rfl, rfl⟩ := h; exact hl.2.1
   | succ k => simp at h; exact vz hl.2.2 h
theorem Xx {n : Nat} {pl : Pl} {k : Nat} (h : k < n) (e : Ent) : jW (Jw n pl) k e = jW pl k e := by
 cases e <;> simp [jW, qD h]
theorem Inv.cut {F : Fr} {K : Kn} {pl : Pl} {bx bx' : List Ent} {w : World} (h3 : Inv F K pl bx w) (s0 : F.n0 <= bx'.length) (s2 : Vf bx bx') (s4 : k8 bx'.length bx' = true) : Inv F K (Jw bx'.length pl) bx' w := by
 refine ⟨h3.chg, h3.mod, h3.le, h3.new, ⟨?_, ?_, ?_⟩, ?_, s0, ?_, h3.glob⟩
 ·intro k e hk
  have hlt := (List.getElem?_eq_some_iff.1 hk).1
  have := h3.tab.ok k e (Q1 s2 hk)
  cases e with
  | cells l =>
    obtain ⟨b, T, cs, h5, h7, h8, h9, h10⟩ := this
    exact ⟨b, T, cs, by rw [qD hlt]; exact h5, h7, h8, yh l cs (vA s4 hk) h9, h10⟩
  | tcells T l =>
    obtain ⟨b, cs, h5, h7, h8, h9, h10⟩ := this
    exact ⟨b, cs, by rw [qD hlt]; exact h5, h7, h8, yh l cs (zZ s4 hk) h9, h10⟩
  | arr e sz ver rows =>
    obtain ⟨v, vs, h5, h6, h7, h8, h9, h10⟩ := this
    exact ⟨v, vs, by rw [qD hlt]; exact h5, h6, h7, h8, h9, fun ver' hv => by rw [qD hlt]; exact h10.1 ver' hv, h10.2⟩
  | gone => trivial
  | fresh => intro ver; rw [qD hlt]; exact this ver
  | obj o =>
    obtain ⟨b, h1, h3, h4⟩ := this
    exact ⟨b, by rw [qD hlt]; exact h1, h3, h4⟩
  | iter cur ks vs =>
    obtain ⟨r, h1, h3, h4⟩ := this
    exact ⟨r, by rw [qD hlt]; exact h1, h3, h4⟩
  | mapx g ks vs =>
    obtain ⟨kvs, vvs, h1, h3⟩ := this
    exact ⟨kvs, vvs, by rw [qD hlt]; exact h1, h3⟩
  | ito g seen cur ks vs =>
    obtain ⟨r, kvs, vvs, h1, h3⟩ := this
    exact ⟨r, kvs, vvs, by rw [qD hlt]; exact h1, h3⟩
  | map ks vs =>
    obtain ⟨b, es, clock, kvs, vvs, h5, h7, h8, h9, h10, h11⟩ := this
    exact ⟨b, es, clock, kvs, vvs, by rw [qD hlt]; exact h5, h7, h8, h9, yh vs vvs (vz s4 hk) h10, h11⟩
 ·intro i j e f b hij hi hj
  rw [Xx (List.getElem?_eq_some_iff.1 hi).1, Xx (List.getElem?_eq_some_iff.1 hj).1]
  exact h3.tab.sep i j e f b hij (Q1 s2 hi) (Q1 s2 hj)
 ·exact fun k ver hk => jW3 hk
 ·intro k e b hk hb
  rw [Xx (List.getElem?_eq_some_iff.1 hk).1] at hb
  exact h3.own k e b (Q1 s2 hk) hb
 ·intro k ver x hk hx
  rw [qD (by omega)]; exact h3.keep k ver x hk hx
theorem Den.sub {nt : Nat} {F : Fr} {dl : List Nat} {st st' : St} {a : Act} {w : World} (h : Den nt F dl st a w) (hs : Sub F.n0 st st') : Den nt F dl st' a w := by
 obtain ⟨h1, h2, K, pl, h3, h4⟩ := h
 obtain ⟨s0, s1, s2, s3, s4⟩ := hs
 rw [kK] at s0 s3 s4
 refine ⟨h1, h2, K, Jw st'.bx.length pl, h3.cut (Nat.le_of_ble_eq_true s0) s2 s4, fun s g d hg hf => ?_⟩
 obtain ⟨rfl, hl⟩ := jU1 s3 hg
 have := h4 s [] d (jO2 s1 hg) (.inl rfl)
 exact ⟨fun hh => jJ9 d _ hl (this.1 hh), this.2⟩
/-! ### Code -/
def xu (F : Fr) : List Nat -> Fr
 | [] => F
 | D :: ds => { xu F ds with K := xk (xu F ds).K D (.deferred (some [])) }
theorem jL8 {F : Fr} : ∀ {ds : List Nat}, (xu F ds).S = F.S
 | [] => rfl
 | _ :: ds => jL8 (ds := ds)
theorem jd0 {F : Fr} : ∀ {ds : List Nat}, (xu F ds).w = F.w
 | [] => rfl
 | _ :: ds => jd0 (ds := ds)
theorem xZ {F : Fr} : ∀ {ds : List Nat}, (xu F ds).n0 = F.n0
 | [] => rfl
 | _ :: ds => xZ (ds := ds)
theorem YN {F : Fr} : ∀ {ds : List Nat}, (xu F ds).pl = F.pl
 | [] => rfl
 | _ :: ds => YN (ds := ds)
theorem Va {F : Fr} : ∀ {ds : List Nat}, (xu F ds).gt = F.gt
 | [] => rfl
 | _ :: ds => Va (ds := ds)
theorem kd7 {F : Fr} {b : Nat} {o : Obj} : ∀ {ds : List Nat}, (xu F ds).K b = some o -> F.K b = some o \/ (b ∈ ds /\ o = .deferred (some []))
 | [], h => .inl h
 | D :: ds, h => by
   simp only [xu, xk] at h
   split at h
   ·rename_i e; cases h; exact .inr ⟨by simp [e], rfl⟩
   ·rcases kd7 (ds := ds) h with h | ⟨h1, h2⟩
    ·exact .inl h
    ·exact .inr ⟨List.mem_cons_of_mem _ h1, h2⟩
theorem YO {F : Fr} {b : Nat} : ∀ {ds : List Nat}, b ∈ ds -> (xu F ds).K b = some (.deferred (some []))
 | [], h => by cases h
 | D :: ds, h => by
   simp only [xu, xk]
   split
   ·rfl
   ·rename_i hne
    rcases List.mem_cons.1 h with h | h
    ·exact absurd h hne
    ·exact YO h
def Low (F : Fr) : Prop := ∀ b o, F.K b = some o -> b < F.w.heap.size
structure Good (F : Fr) (ds : List Nat) : Prop where
 nodup : ds.Nodup
 new : ∀ D ∈ ds, F.w.heap.size <= D
theorem jL7 {F : Fr} (hF : Low F) : ∀ {ds : List Nat}, Good F ds -> KLe F.K (xu F ds).K
 | [], _ => KLe.refl _
 | D :: ds, hg => fun b o hb => by
   simp only [xu, xk]
   rw [if_neg (by have := hg.new D (by simp); have := hF b o hb; omega)]
   exact jL7 hF ⟨(List.nodup_cons.1 hg.nodup).2, fun E hE => hg.new E (List.mem_cons_of_mem _ hE)⟩ b o hb
theorem kA4 {F : Fr} (hF : Low F) {ds : List Nat} (hg : Good F ds) : FLe F (xu F ds) := ⟨jL7 hF hg, by rw [xZ]; exact Nat.le_refl _, fun k ver x _ h => by rw [YN]; exact h, Va⟩
theorem Inv.unext {F : Fr} (hF : Low F) {ds : List Nat} (hg : Good F ds) {K : Kn} {pl : Pl} {bx : List Ent} {w : World} (h : Inv (xu F ds) K pl bx w) : Inv F K pl bx w := by
 refine ⟨?_, h.mod, (jL7 hF hg).trans h.le, fun b o hb => ?_, h.tab, fun k e b hk hb => ?_, ?_, ?_, ?_⟩
 ·have := h.chg; rw [jL8, jd0] at this; exact this
 ·rcases h.new b o hb with h1 | h1 | h1
  ·rcases kd7 h1 with h2 | ⟨h2, _⟩
   ·exact .inl h2
   ·exact .inr (.inr (hg.new b h2))
  ·rw [jL8] at h1; exact .inr (.inl h1)
  ·rw [jd0] at h1; exact .inr (.inr h1)
 ·have := h.own k e b hk hb; rw [jL8, jd0] at this; exact this
 ·have := h.len; rw [xZ] at this; exact this
 ·intro k ver x hk hx
  exact h.keep k ver x (by rw [xZ]; exact hk) (by rw [YN]; exact hx)
 ·have := h.glob; rw [Va] at this; exact this
theorem Inv.ext {F : Fr} {ds : List Nat} {D : Nat} {K : Kn} {pl : Pl} {bx : List Ent} {w : World} (h : Inv (xu F ds) K pl bx w) (hD : K D = some (.deferred (some []))) : Inv (xu F (D :: ds)) K pl bx w :=
 ⟨h.chg, h.mod, fun b o hb => by
   simp only [xu, xk] at hb
   split at hb
   ·rename_i e; cases hb; rw [e]; exact hD
   ·exact h.le b o hb, fun b o hb => by
   rcases h.new b o hb with h1 | h1 | h1
   ·left
    simp only [xu, xk]
    split
    ·rename_i e; rw [e, hD] at hb; exact hb
    ·exact h1
   ·exact .inr (.inl h1)
   ·exact .inr (.inr h1), h.tab, h.own, h.len, h.keep, h.glob⟩
def DenM (nt : Nat) (F : Fr) (st : St) (a : Act) (w : World) : Prop := ∃ ds, Good F ds /\ Den nt (xu F ds) ds st a w
theorem DenM.sub {nt : Nat} {F : Fr} {st st' : St} {a : Act} {w : World} (h : DenM nt F st a w) (hs : Sub F.n0 st st') : DenM nt F st' a w := by
 obtain ⟨ds, h1, h2⟩ := h
 exact ⟨ds, h1, h2.sub (by rw [xZ]; exact hs)⟩
theorem jz7 {nt : Nat} {F : Fr} {R : Act -> World -> Prop} {st : St} (h : Yi F.n0 (fun s => ∀ a w, DenM nt F s a w -> R a w) st) {a : Act} {w : World} (hd : DenM nt F st a w) : R a w := by
 rcases h with h | ⟨s', h1, h2⟩
 ·exact h a w hd
 ·exact h2 a w (hd.sub h1)
theorem bO_bN {a b : Bool} (h : bO (bN a) b = true) : a = false \/ b = true := by cases a <;> simp_all [bO, bN]
theorem Zd {Sp : CallP} {gt : Nat -> Option (List D)} : ∀ (c : C) (n0 n1 : Nat) (K : Ex -> St -> Prop) (st : St), zw c = true -> run Sp gt n0 c K st -> run Sp gt n1 c K st
 | .skip, _, _, K, st, _, h => h
 | .reg _ _ _, _, _, K, st, _, h => h
 | .exit _, _, _, K, st, _, h => h
 | .ret, _, _, K, st, _, h => h
 | .loop _, _, _, K, st, hl, _ => by simp [zw] at hl
 | .rangef _ _ _ _, _, _, K, st, hl, _ => by simp [zw] at hl
 | .blk id c, n0, n1, K, st, hl, h => by
   simp only [run] at h |-
   exact Zd c n0 n1 _ st (by simpa [zw] using hl) h
 | .ite x a b, n0, n1, K, st, hl, h => by
   simp only [zw, Bool.and_eq_true] at hl
   simp only [run] at h |-
   cases he : jL st.env [] x with
   | none => rw [he] at h; exact h.elim
   | some d =>
     rw [he] at h
     cases d <;> simp only [ky] at h |- <;> try (exact h.elim)
     exact ⟨fun ht => Zd a n0 n1 K st hl.1 (h.1 ht), fun ht => Zd b n0 n1 K st hl.2 (h.2 ht)⟩
 | .seq a b, n0, n1, K, st, hl, h => by
   simp only [zw, Bool.and_eq_true] at hl
   simp only [run] at h |-
   have hk : Q0 (run Sp gt n0 b K) K = Q0 (run Sp gt n1 b K) K := by
    funext e s
    cases e <;> simp only [Q0]
    exact propext ⟨Zd b n0 n1 K s hl.2, Zd b n1 n0 K s hl.2⟩
   rw [hk] at h
   exact Zd a n0 n1 _ st hl.1 h
def ym : C -> Bool
 | .rangef .. => false
 | .seq a b => ym a && ym b
 | .ite _ a b => ym a && ym b
 | .blk _ c => ym c
 | .loop c => ym c
 | _ => true
theorem vc : ∀ {c : C}, zw c = true -> ym c = true
 | .skip, _ => rfl
 | .reg _ _ _, _ => rfl
 | .exit _, _ => rfl
 | .ret, _ => rfl
 | .loop _, hl => by simp [zw] at hl
 | .rangef _ _ _ _, hl => by simp [zw] at hl
 | .blk _ c, hl => vc (c := c) (by simpa [zw] using hl)
 | .ite _ a b, hl => by
   simp only [zw, Bool.and_eq_true] at hl
   simp only [ym, Bool.and_eq_true]
   exact ⟨vc hl.1, vc hl.2⟩
 | .seq a b, hl => by
   simp only [zw, Bool.and_eq_true] at hl
   simp only [ym, Bool.and_eq_true]
   exact ⟨vc hl.1, vc hl.2⟩
def Snd (P : Program) (nt : Nat) (gt : Nat -> Option (List D)) (Φ : Fr -> Prop) (code : Code) (c : C) : Prop :=
 ∀ (F : Fr), F.gt = gt -> Low F -> (∀ F', FLe F F' -> Φ F') -> ∀ (ro : Option Nat) (n : Nat), (ro = none \/ zw c = true) -> ∀ (K : Ex -> St -> Prop) (Q : Exit -> Act -> World -> Prop) (st : St) (a : Act) (w : World), run (jX6 P gt Φ) gt F.n0 c K st -> DenM nt F st a w ->
  (∀ e st a w, K e st -> DenM nt F st a w -> Q (exO e) a w) -> code.wpIn (wr ro) n P Q a w
mutual
theorem kT1 {n : Nat} : ∀ (d : D), low n d = true -> low (n + 1) d = true
 | .box k _, h => by simp only [low, zo] at h |-; omega
 | .boxi k _, h => by simp only [low, zo] at h |-; omega
 | .bsl k _ _ _, h => by simp only [low, zo] at h |-; omega
 | .own k _, h => by simp only [low, zo] at h |-; omega
 | .ownm k _, h => by simp only [low, zo] at h |-; omega
 | .elo k _ _ _ _, h => by simp only [low, zo] at h |-; omega
 | .yld k, h => by simp only [low, zo] at h |-; omega
 | .osl k _ _ _ _, h => by simp only [low, zo] at h |-; omega
 | .agg l, h => by simp only [low] at h |-; exact vU l h
 | .tup l, h => by simp only [low] at h |-; exact vU l h
 | .fn _ l, h => by simp only [low] at h |-; exact vU l h
 | .int _ _, _ => rfl
 | .bool _, _ => rfl
 | .str _, _ => rfl
 | .ls _ _, _ => rfl
 | .mp _ _, _ => rfl
 | .nil, _ => rfl
 | .el _ _ _ _, _ => rfl
 | .glob _ _, _ => rfl
 | .ifc _, _ => rfl
 | .any, _ => rfl
theorem vU {n : Nat} : ∀ (l : List D), vb n l = true -> vb (n + 1) l = true
 | [], _ => rfl
 | d :: l, h => by
   simp only [vb, Bool.and_eq_true] at h |-
   exact ⟨kT1 d h.1, vU l h.2⟩
end
theorem KZ {n : Nat} {o : Obj} : ∀ {bx : List Ent}, k8 n bx = true -> k8 (n + 1) (bx ++ [.obj o]) = true
 | [], _ => rfl
 | e :: r, h => by
   cases e <;> simp only [k8, List.cons_append, Bool.and_eq_true] at h |-
   case cells l => exact ⟨vU _ h.1, KZ h.2⟩
   case tcells T l => exact ⟨vU _ h.1, KZ h.2⟩
   case map ks vs => exact ⟨vU _ h.1, vU _ h.2.1, KZ h.2.2⟩
   all_goals exact KZ h
theorem Y8 : ∀ (a b : List Ent), vH a b = b.take a.length
 | [], b => by cases b <;> simp [vH]
 | _ :: a, [] => by simp [vH]
 | _ :: a, x :: b => by simp [vH, Y8 a b]
theorem JT : ∀ (n : Nat) (b : List Ent), Vf b (b.take n)
 | 0, b => by cases b <;> simp [Vf]
 | n + 1, [] => by simp [Vf]
 | n + 1, x :: b => by simp [Vf, JT n b]
theorem ks8 {n : Nat} {b : List Ent} {e : Ent} (h : b[n]? = some e) : Vf b (b.take n ++ [e]) := by
 have hlt := (List.getElem?_eq_some_iff.1 h).1
 have e1 : b.take n ++ [e] = b.take (n + 1) := by
  rw [List.take_add_one, h]; rfl
 rw [e1]; exact JT _ _
theorem kb2 {env : x4} (h : jo env = true) {s : Nat} {g : G} {d : D} (hg : get env s = some (g, d)) : g = [] := jb9 h _ _ _ hg
theorem jS2 {K : Kn} {pl : Pl} {nt : Nat} : ∀ (ps : List Nat) (ds : List D) (vs : List Value) (env : x4) (tmps : Array Value), (∀ p ∈ ps, p < nt) -> tmps.size = nt -> jx3 ds ps = true -> RepL K pl ds vs -> jo env = true -> (∀ s, SlotOk K pl env ⟨tmps, []⟩ s) ->
  let t' := (ps.zip vs).foldl (fun t (p : Nat × Value) => t.setIfInBounds p.1 p.2) tmps
  t'.size = nt /\ jo (VT ps ds env) = true /\ ∀ s, SlotOk K pl (VT ps ds env) ⟨t', []⟩ s
 | [], ds, vs, env, tmps, _, hsz, hl, hr, hp, hs => by
   cases ds with
   | nil => simp only [RepL] at hr; subst hr; exact ⟨hsz, hp, hs⟩
   | cons d ds => simp [jx3] at hl
 | p :: ps, ds, vs, env, tmps, hlt, hsz, hl, hr, hp, hs => by
   cases ds with
   | nil => simp [jx3] at hl
   | cons d ds =>
     simp only [RepL] at hr
     obtain ⟨v, r, rfl, h1, h2⟩ := hr
     simp only [List.zip_cons_cons, List.foldl_cons, VT]
     refine jS2 ps ds r _ _ (fun q hq => hlt q (List.mem_cons_of_mem _ hq)) (by simpa using hsz) (by simpa [jx3] using hl) h2 (by simpa [jo] using hp) fun s g d' hg hf => ?_
     have hpl : p < tmps.size := by rw [hsz]; exact hlt p (by simp)
     have hg0 : g = [] := kb2 (env := (p, [], d) :: env) (by simpa [jo] using hp) hg
     subst hg0
     refine ⟨fun _ => ?_, fun h => absurd (kF _) h⟩
     simp only [get] at hg
     by_cases hps : p = s
     ·subst hps
      simp at hg; subst hg
      simp [Array.getD_eq_getD_getElem?, hpl, h1]
     ·have : (p == s) = false := by simpa using hps
      rw [this] at hg
      simp only [cond_false] at hg
      have := (hs s [] d' hg (.inl rfl)).1 (kF _)
      simp only [Array.getD_eq_getD_getElem?] at this |-
      rw [Array.getElem?_setIfInBounds_ne hps]; exact this
theorem Chg.putObj (w : World) (L : Nat) (o : Obj) : Chg (fun b => b = L) w (w.putObj L o) :=
 ⟨rfl, rfl, rfl, by simp, fun k _ hn => World.putObj_heap_other hn⟩
theorem Inv.putObj {F : Fr} {K : Kn} {pl : Pl} {bx : List Ent} {w : World} (h : Inv F K pl bx w) {k L : Nat} {o : Obj} (o' : Obj) (hk : bx[k]? = some (.obj o)) (hL : pl k 0 = some (.pointer (some ⟨L, 0, none⟩))) : Inv F K pl (bx.set k (.obj o')) (w.putObj L o') := by
 obtain ⟨b, h1, h2, h3⟩ := h.tab.ok k _ hk
 rw [hL] at h1; cases h1
 refine h.upd hk (PLe.refl _) (fun _ _ _ => rfl) (fun b hb => .inl ?_) ⟨rfl, rfl, rfl, by simp, fun c _ hn => World.putObj_heap_other fun e => hn (by rw [e, xQ hL])⟩ ⟨L, hL, h2, World.putObj_heap_same (Array.getElem?_eq_some_iff.1 h3).1⟩
 rw [xQ hL] at hb |-; exact hb
theorem Low.of_mod {K : Kn} {w : World} (h : ∀ b o, K b = some o -> w.heap[b]? = some o) : ∀ b o, K b = some o -> b < w.heap.size := fun b o hb => (Array.getElem?_eq_some_iff.1 (h b o hb)).1
theorem DenM.mk {nt : Nat} {F : Fr} {st : St} {a : Act} {w : World} {K : Kn} {pl : Pl} (h1 : a.tmps.size = nt) (h2 : a.defers = []) (h3 : Inv F K pl st.bx w) (h4 : ∀ s, SlotOk K pl st.env a s) : DenM nt F st a w :=
 ⟨[], ⟨List.nodup_nil, nofun⟩, h1, h2, K, pl, h3, h4⟩
def xM : Ex -> Option Code
 | .nrm => none
 | .ret => some .ret
 | .exit id => some (.exit id)
theorem jH7 {P : Program} {nt : Nat} {F : Fr} (hF : Low F) {Φ : Fr -> Prop} (hΦ : ∀ F' : Fr, F'.gt = F.gt -> Φ F') (n : Nat)
  {g : Operand} {ps : Array Tmp} {ca cb : Code} {x : X} {a b : C} (hx : qm P 0 g = some x) (hps : ∀ p ∈ ps.toList, p < nt) (hla : zw a = true) (hlb : zw b = true) (hA : Snd P nt F.gt Φ ca a) (hB : Snd P nt F.gt Φ cb b)
  {K : Ex -> St -> Prop} {Q : Exit -> Act -> World -> Prop} {st : St} {act : Act} {w : World} (hr : kP5 (jX8 P F.gt) ps.toList (run (jX6 P F.gt Φ) F.gt F.n0 a) (run (jX6 P F.gt Φ) F.gt F.n0 b) K st (jL st.env [] x))
  (hd : DenM nt F st act w) (hQ : ∀ e st a w, K e st -> DenM nt F st a w -> Q (exO e) a w) : (Code.rangeFunc g ps ca cb).wpIn (wr none) n P Q act w := by
 obtain ⟨ds, hgd, h1, h2, K0, pl, hI, hs⟩ := hd
 cases he : jL st.env [] x with
 | none => rw [he] at hr; exact hr.elim
 | some dd =>
 rw [he] at hr
 have hv := kI (K := K0) (pl := pl) hx (fun s _ => hs s) (kF act) he
 cases dd <;> simp only [kP5] at hr <;> try (exact hr.elim)
 rename_i f caps
 obtain ⟨xs, Kp, S, m, R⟩ := hr
 simp only [Rep] at hv
 obtain ⟨cs, hcs, hcaps⟩ := hv
 obtain ⟨hok, hit⟩ := R.it
 have hn1 : jD st.bx = st.bx.length := kK _
 have hlow := R.low
 rw [hn1] at hlow
 refine wpIn_rangeFunc fun fnid _ => ?_
 obtain ⟨rec, hrec⟩ : ∃ rec : LoopState -> Option Code -> Loop, rec = fun st pe => { state := st, pending := pe, fn := fnid, tmps := act.tmps, params := ps, assign := ca, body := cb, defers := w.heap.size } := ⟨_, rfl⟩
 have hI0 := (hI.newRow (.deferred (some []))).2.ext (D := w.heap.size) (by simp [xk])
 have hK0 := (hI.newRow (.deferred (some []))).1
 have hadd := hI0.add (w' := (w.alloc (.deferred (some []))).alloc (.loop (rec .ready none))) (.pointer (some ⟨(w.alloc (.deferred (some []))).heap.size, 0, none⟩)) (.obj (.loop (rec .ready none))) (.inr (xQ (jY _ _ _ _))) (Chg.alloc _ _)
  ⟨(w.alloc (.deferred (some []))).heap.size, jY _ _ _ _, hI0.fresh, vh _ _⟩
 obtain ⟨hpl1, hI1⟩ := hadd
 have hLs : (w.alloc (.deferred (some []))).heap.size = w.heap.size + 1 := by simp
 rw [hLs] at hI1 hpl1
 generalize hK1 : xk K0 w.heap.size (.deferred (some [])) = K1 at hI1 hK0
 generalize hp1 : qi pl st.bx.length 0 (.pointer (some ⟨w.heap.size + 1, 0, none⟩)) = pl1 at hI1 hpl1
 have hL1 : pl1 st.bx.length 0 = some (.pointer (some ⟨w.heap.size + 1, 0, none⟩)) := by rw [<- hp1]; exact jY _ _ _ _
 generalize hW1 : (w.alloc (.deferred (some []))).alloc (.loop (rec .ready none)) = W1 at hI1
 have hgd' : Good F (w.heap.size :: ds) := by
  refine ⟨List.nodup_cons.2 ⟨fun hm => ?_, hgd.nodup⟩, fun D hD => ?_⟩
  ·have := (Array.getElem?_eq_some_iff.1 (hI.mod _ _ (hI.le _ _ (YO hm)))).1
   omega
  ·rcases List.mem_cons.1 hD with rfl | hD
   ·have := hI.chg.size; rw [jd0] at this; exact this
   ·exact hgd.new D hD
 have hfn : ∀ args w, (callFunc f args).run P w = .ok (.enter f args) w := fun args w => va hok args w
 refine ⟨w.heap.size + 1, [{ target := .collected w.heap.size, args := #[] }], W1, { target := .fn (.func f) cs.toArray, args := #[.func (.yield (w.heap.size + 1)) #[] #[]] }, W1, f,
  #[.func (.yield (w.heap.size + 1)) #[] #[]] ++ cs.toArray, W1, ?_, ?_, fun _ _ => trivial, ?_, JP _ _, ?_⟩
 ·rw [<- hW1, hrec]; exact run_enterLoop_outer _ _ _ _ _
 ·simp only [resolve, hcs]
  simp [go_sem]
 ·simp [invoke, go_sem, hfn]
 -- a round
 have core : ∀ (bxi bT : List Ent) (eT : Ex) (Kf : Obj -> Ex -> St -> Prop) (x : List D), bxi.length = st.bx.length -> bT.length = st.bx.length -> k8 st.bx.length bT = true -> jx3 x ps.toList = true ->
   (∀ o e s, Kf o e s -> e = eT /\ jI s.bx (jD st.bx) = some (.obj o) /\ vH st.bx s.bx = bT) ->
   (∀ o, run (jX6 P F.gt Φ) F.gt F.n0 a (ko0 (jD st.bx) o fun o' t => run (jX6 P F.gt Φ) F.gt F.n0 b (Kf o') t) ⟨VT ps.toList x st.env, jX bxi (.obj o)⟩) ->
   ∀ ts, PrD P (FLe ⟨Own pl1 (st.bx ++ [.obj (.loop (rec .ready none))]), W1, K1, (st.bx ++ [Ent.obj (.loop (rec .ready none))]).length, pl1, F.gt⟩) (.yld ts) (.yld st.bx.length :: x) (bxi ++ [.obj (.loop (rec .ready none))]) (.bool (xM eT).isNone)
    (bT ++ [.obj (.loop (rec (if (xM eT).isNone then .ready else .done) (xM eT)))]) := by
  intro bxi bT eT Kf x hszi hszT hlwT hlenx hKf hrun0 ts F' K2 pl2 w2 o ρ xs' hFL hρ hI2 hop hrep
  have hk : ∀ o', (bxi ++ [Ent.obj o'])[st.bx.length]? = some (.obj o') := fun o' => by rw [<- hszi]; simp
  cases xs' with
  | nil => simp [RepL] at hrep
  | cons x0 args =>
  simp only [Pr.op, Option.some.injEq] at hop
  simp only [List.map_cons, RepL] at hrep
  obtain ⟨v, r, hvr, hy, hxr⟩ := hrep
  obtain ⟨hv0, rfl⟩ := List.cons.inj hvr
  simp only [Rep] at hy
  obtain ⟨L', hL', rfl⟩ := hy
  have hPL : PLe pl1 pl2 := fun k ver x hx => by
   by_cases hlt : k < st.bx.length + 1
   ·exact hI2.keep k ver x (Nat.lt_of_lt_of_le (by show k < (st.bx ++ [Ent.obj (.loop (rec .ready none))]).length; simpa using hlt) hFL.n0) (hFL.pl k ver x (by show k < (st.bx ++ [Ent.obj (.loop (rec .ready none))]).length; simpa using hlt) hx)
   ·rw [hI1.tab.free k ver (by simp; omega)] at hx; cases hx
  have hKL : KLe K1 K2 := hFL.K.trans hI2.le
  have hL2 := hPL _ _ _ hL1
  rw [hL2] at hL'
  simp only [Option.some.injEq, Value.pointer.injEq, Addr.mk.injEq, and_true] at hL'
  subst hL'
  obtain ⟨b', hb1, hKn, hheap⟩ := hI2.tab.ok _ _ (hk _)
  rw [hL2] at hb1
  simp only [Option.some.injEq, Value.pointer.injEq, Addr.mk.injEq, and_true] at hb1
  subst hb1
  have hlen' : ∀ (l : List D) (q : List Nat), jx3 l q = true -> l.length = q.length := fun l => by
   induction l with
   | nil => intro q h; cases q <;> simp [jx3] at h |-
   | cons d l ih => intro q h; cases q <;> simp [jx3] at h |-; exact ih _ h
  have hrun : (execOp ρ o).run P w2 = .ok (.round (w.heap.size + 1) fnid ((ps.zip (args.map ρ).toArray).foldl (fun t (p : Nat × Value) => t.setIfInBounds p.1 p.2) act.tmps) ca cb) w2 := by
   obtain ⟨od, oo, oty, opos, oaf, og⟩ := o
   dsimp only at hop
   subst hop
   have hy := run_yield (P := P) (args := (args.map ρ).toArray) hheap (by rw [hrec]; have := hxr.length; have := hlen' _ _ hlenx; simp at *; omega)
   simp [execOp, resolve, hv0, Deferred.ofValue, invoke, Sem.run_bind]
   rw [hrec] at hy
   simp at hy
   exact hy
  refine .inr ⟨w.heap.size + 1, fnid, _, ca, cb, hrun, ?_⟩
  have hszb : (bxi ++ [Ent.obj (.loop (rec .ready none))]).length = st.bx.length + 1 := by simp [hszi]
  let Fa : Fr := ⟨Own pl2 (bxi ++ [.obj (.loop (rec .ready none))]), w2, K2, (bxi ++ [Ent.obj (.loop (rec .ready none))]).length, pl2, F'.gt⟩
  have hIa : Inv Fa K2 pl2 (bxi ++ [.obj (.loop (rec .ready none))]) w2 := ⟨Chg.refl _ _, hI2.mod, KLe.refl _, fun b o h => .inl h, hI2.tab, fun k e b hk hb => .inl ⟨k, e, hk, hb⟩, Nat.le_refl _, fun k ver x _ h => h, hI2.glob⟩
  have hgtF : Fa.gt = F.gt := hFL.gt
  have hLow : Low Fa := Low.of_mod hI2.mod
  have hΦa : ∀ F'' : Fr, FLe Fa F'' -> Φ F'' := fun F'' h => hΦ F'' (by rw [h.gt]; exact hgtF)
  refine roundIn_of_wpIn (F := wr none) trivial ?_
  have hss : ∀ s, SlotOk K2 pl2 st.env ⟨act.tmps, []⟩ s := fun s => (hs s).mono (hK0.trans hKL) (hpl1.trans hPL)
  obtain ⟨t1, t2, t3⟩ := jS2 ps.toList x (args.map ρ) st.env act.tmps hps h1 hlenx hxr R.pl hss
  have hfold : (ps.zip (args.map ρ).toArray).foldl (fun t (p : Nat × Value) => t.setIfInBounds p.1 p.2) act.tmps = (ps.toList.zip (args.map ρ)).foldl (fun t (p : Nat × Value) => t.setIfInBounds p.1 p.2) act.tmps := by
   rw [<- Array.foldl_toList]; simp
  rw [hfold]
  have hround := hrun0 (.loop (rec .ready none))
  rw [qT, hn1] at hround
  refine hA Fa hgtF hLow hΦa (some (w.heap.size + 1)) 0 (.inr hla) _ _ _ _ w2 (Zd a _ _ _ _ hla hround) (DenM.mk t1 rfl hIa t3) ?_
  intro e st1 a1 w1 hk1 hd1
  cases e with
  | exit id => exact hk1.elim
  | ret => exact hk1.elim
  | nrm =>
  obtain ⟨hent, hbody⟩ := hk1
  rw [kG] at hent
  obtain ⟨ds1, hg1, q1, q2, K3, pl3, hI3, hs3⟩ := hd1
  have hL3 : pl3 st.bx.length 0 = some (.pointer (some ⟨w.heap.size + 1, 0, none⟩)) := hI3.keep _ _ _ (by rw [xZ]; show _ < (bxi ++ [Ent.obj (.loop (rec .ready none))]).length; omega) (by rw [YN]; exact hL2)
  obtain ⟨b', hb1, _, hheap1⟩ := hI3.tab.ok _ _ hent
  rw [hL3] at hb1
  simp only [Option.some.injEq, Value.pointer.injEq, Addr.mk.injEq, and_true] at hb1
  subst hb1
  refine ⟨_, run_beginRound hheap1 (by rw [hrec]), ?_⟩
  have hI4 := hI3.putObj (.loop { rec .ready none with state := .busy }) hent hL3
  have hb2 := hbody (.loop { rec .ready none with state := .busy })
  rw [qF] at hb2
  refine hB Fa hgtF hLow hΦa (some (w.heap.size + 1)) 0 (.inr hlb) _ _ _ a1 _ (Zd b _ _ _ _ hlb hb2) ⟨ds1, hg1, q1, q2, K3, pl3, hI4, hs3⟩ ?_
  intro e st2 a2 w3 hk2 hd2
  obtain ⟨ds2, hg2, q3, q4, K4, pl4, hI5, hs5⟩ := hd2
  have hL5 : pl4 st.bx.length 0 = some (.pointer (some ⟨w.heap.size + 1, 0, none⟩)) := hI5.keep _ _ _ (by rw [xZ]; show _ < (bxi ++ [Ent.obj (.loop (rec .ready none))]).length; omega) (by rw [YN]; exact hL2)
  have fin : ∀ jump : Option Code, jI st2.bx (jD st.bx) = some (.obj (.loop { rec .ready none with state := .busy })) -> k8 st.bx.length (vH st.bx st2.bx) = true ->
    (vH st.bx st2.bx).length = st.bx.length /\ (Instr.endRound (w.heap.size + 1) jump).run P w3 = .ok (.bool jump.isNone) (w3.putObj (w.heap.size + 1) (.loop (rec (if jump.isNone then .ready else .done) jump))) /\
      ∃ K' pl', KLe K2 K' /\ PLe pl2 pl' /\ Inv F' K' pl' (vH st.bx st2.bx ++ [.obj (.loop (rec (if jump.isNone then .ready else .done) jump))]) (w3.putObj (w.heap.size + 1) (.loop (rec (if jump.isNone then .ready else .done) jump))) := by
   intro jump hent2 hlw2
   rw [kG, hn1] at hent2
   obtain ⟨b', hb1, _, hheap2⟩ := hI5.tab.ok _ _ hent2
   rw [hL5] at hb1
   simp only [Option.some.injEq, Value.pointer.injEq, Addr.mk.injEq, and_true] at hb1
   subst hb1
   have hlt2 := (List.getElem?_eq_some_iff.1 hent2).1
   have hlt : (vH st.bx st2.bx).length = st.bx.length := by rw [Y8]; simp; omega
   refine ⟨hlt, ?_, ?_⟩
   ·have := run_endRound (P := P) jump hheap2
    rw [hrec] at this |-
    exact this
   ·have hI6 := (hI5.unext hLow hg2).putObj (.loop (rec (if jump.isNone then .ready else .done) jump)) hent2 hL5
    have hI7 := hI6.cut (bx' := vH st.bx st2.bx ++ [.obj (.loop (rec (if jump.isNone then .ready else .done) jump))]) (by show (bxi ++ [Ent.obj (.loop (rec .ready none))]).length <= _; simp [hlt, hszi]) (by
     have h9 := ks8 (n := st.bx.length) (b := st2.bx.set st.bx.length (.obj (.loop (rec (if jump.isNone then .ready else .done) jump)))) (by rw [List.getElem?_set_self hlt2])
     rw [List.take_set_of_le (Nat.le_refl _)] at h9
     rw [Y8]; exact h9) (by simpa [hlt] using KZ hlw2)
    obtain ⟨g1, g2, g3⟩ := hI2.then hI7
    exact ⟨_, _, g1, g2, g3⟩
  obtain ⟨rfl, hent2, htk⟩ := hKf _ _ _ hk2
  obtain ⟨_, hrunE, K', pl', g1, g2, g3⟩ := fin (xM e) hent2 (by rw [htk]; exact hlwT)
  rw [htk] at g3
  have hpost : ∀ R : Ending -> World -> Prop, R (.returned (.bool (xM e).isNone)) (w3.putObj (w.heap.size + 1) (.loop (rec (if (xM e).isNone then .ready else .done) (xM e)))) -> roundPost P (w.heap.size + 1) R (exO e) a2 w3 := fun R hR => by
   cases e with
   | nrm => exact ⟨_, _, hrunE, hR⟩
   | exit id => exact ⟨_, _, hrunE, hR⟩
   | ret => exact ⟨_, _, hrunE, hR⟩
  exact hpost _ ⟨_, K', pl', rfl, g1, g2, g3, by simp [Rep]⟩
 obtain ⟨e0, bs, hej, hbl, hblw, hst, hKe⟩ : ∃ e bs, jK4 e = true /\ bs.length = st.bx.length /\ k8 st.bx.length bs = true /\
   (∀ x o, xs[m]? = some x -> run (jX6 P F.gt Φ) F.gt F.n0 a (ko0 (jD st.bx) o fun o' t => run (jX6 P F.gt Φ) F.gt F.n0 b (ks9 st.bx o' e bs) t) ⟨VT ps.toList x st.env, jX (S m) (.obj o)⟩) /\ (m < xs.length -> K e ⟨st.env, bs⟩) := by
  by_cases hm : m < xs.length
  ·obtain ⟨e, bs, q1, q2, q3, q4, q5⟩ := R.stop hm
   rw [kK, kK] at q2
   rw [hn1] at q3
   exact ⟨e, bs, q1, q2, q3, q4, fun _ => q5⟩
  ·obtain ⟨q1, q2, _⟩ := hlow m (Nat.le_refl _)
   rw [kK] at q1
   exact ⟨.ret, S m, rfl, q1, q2, fun x o hx => absurd (List.getElem?_eq_some_iff.1 hx).1 hm, fun h => absurd h hm⟩
 have hjn : (xM e0).isNone = false := by cases e0 <;> simp_all [jK4, xM]
 refine XS ((hit st.bx.length m (fun i => S i ++ [.obj (.loop (rec .ready none))]) (bs ++ [.obj (.loop (rec .done (xM e0)))])
  (st.bx ++ [.obj (.loop (rec .ready none))]) K1 pl1 W1 _ hI1.mod (by have := hI1.glob; rw [Va] at this; exact this) hI1.tab ?_ (by simp [R.start]) R.few (by simp) ?_ (by simp [hbl]) ?_ ?_ ?_).mono ?_)
 ·simp only [Array.toList_append, List.cons_append, List.nil_append, RepL]
  refine ⟨_, cs, rfl, ?_, RepL.mono hK0 hpl1 _ _ hcaps⟩
  simp only [Rep]
  exact ⟨_, hL1, rfl⟩
 ·intro i hi
  obtain ⟨q1, q2, q3⟩ := hlow i hi
  rw [kK] at q1
  exact ⟨by simp [q1], by simpa using KZ q2, S i, _, (qT _ _).symm, q3⟩
 ·simpa using KZ hblw
 ·intro i x hi hx ts
  obtain ⟨q1, q2, q3⟩ := hlow i (by omega)
  obtain ⟨q4, q5, q6⟩ := hlow (i + 1) (by omega)
  rw [kK] at q1 q4
  have := core (S i) (S (i + 1)) .nrm (fun o' => goK st.bx o' (S (i + 1))) x q1 q4 q5 (R.len x (List.mem_of_getElem? hx)) (fun o e s h => by
   cases e with
   | nrm => exact ⟨rfl, h.1, h.2⟩
   | exit id => exact h.elim
   | ret => exact h.elim) (fun o => R.round i x o hi hx) ts
  simpa [xM] using this
 ·intro x hx ts
  obtain ⟨q1, q2, q3⟩ := hlow m (Nat.le_refl _)
  rw [kK] at q1
  have := core (S m) bs e0 (fun o' => ks9 st.bx o' e0 bs) x q1 hbl hblw (R.len x (List.mem_of_getElem? hx)) (fun o e s h => h) (fun o => hst x o hx) ts
  simpa [hjn] using this
 ·rintro e w' ⟨v, K', pl', rfl, hI'⟩
  obtain ⟨g1, g2, hI8⟩ := hI1.then (by rw [Va]; exact hI')
  have hL8 := g2 _ _ _ hL1
  have hPc : PLe pl (Jw st.bx.length pl') := fun k ver x hx => by
   by_cases hlt : k < st.bx.length
   ·rw [qD hlt]; exact g2 _ _ _ (hpl1 _ _ _ hx)
   ·rw [hI.tab.free k ver (by omega)] at hx; cases hx
  have hlen0 := hI.len
  rw [xZ] at hlen0
  by_cases hm : m < xs.length
  ·rw [QD, if_pos hm] at hI8
   have hk : ∀ o', (bs ++ [Ent.obj o'])[st.bx.length]? = some (.obj o') := fun o' => by rw [<- hbl]; simp
   obtain ⟨b', hb1, hKn, hheap⟩ := hI8.tab.ok _ _ (hk _)
   rw [hL8] at hb1
   simp only [Option.some.injEq, Value.pointer.injEq, Addr.mk.injEq, and_true] at hb1
   subst hb1
   refine ⟨xM e0, _, by have := run_endLoop (P := P) hheap (by rw [hrec]; simp); rw [hrec] at this; exact this, ?_⟩
   have hden := fun (o' : Obj) => (show DenM nt F ⟨st.env, bs⟩ { act with defers := [{ target := .collected w.heap.size, args := #[] }] ++ act.defers } (w'.putObj (w.heap.size + 1) o') from
    ⟨w.heap.size :: ds, hgd', h1, by simp [jC1, h2], K', Jw st.bx.length pl', by
      have := (hI8.putObj o' (hk _) hL8).cut (bx' := bs) (by rw [xZ, hbl]; exact hlen0) (by
       have h9 := JT bs.length ((bs ++ [Ent.obj (.loop (rec .done (xM e0)))]).set st.bx.length (.obj o'))
       rw [<- hbl, List.set_append_right _ _ (Nat.le_refl _)] at h9 |-
       simpa using h9) (by rw [hbl]; exact hblw)
      rw [hbl] at this
      exact this, fun s => (hs s).mono (hK0.trans g1) hPc⟩)
   cases e0 with
   | nrm => simp [jK4] at hej
   | ret => exact wpIn_ret (hQ .ret _ _ _ (hKe hm) (hden _))
   | exit id => exact wpIn_exit (hQ (.exit id) _ _ _ (hKe hm) (hden _))
  ·rw [QD, if_neg hm] at hI8
   obtain ⟨hsz, hlw, _⟩ := hlow m (Nat.le_refl _)
   rw [kK] at hsz
   have hk : ∀ o', (S m ++ [Ent.obj o'])[st.bx.length]? = some (.obj o') := fun o' => by rw [<- hsz]; simp
   obtain ⟨b', hb1, hKn, hheap⟩ := hI8.tab.ok _ _ (hk _)
   rw [hL8] at hb1
   simp only [Option.some.injEq, Value.pointer.injEq, Addr.mk.injEq, and_true] at hb1
   subst hb1
   refine ⟨none, _, by have := run_endLoop (P := P) hheap (by rw [hrec]; simp); rw [hrec] at this; exact this, ?_⟩
   have hmm : m = xs.length := by have := R.few; omega
   refine hQ .nrm ⟨st.env, S m⟩ _ _ (R.done hmm) ⟨w.heap.size :: ds, hgd', h1, by simp [jC1, h2], K', Jw st.bx.length pl', ?_, fun s => (hs s).mono (hK0.trans g1) hPc⟩
   have := (hI8.putObj _ (hk _) hL8).cut (bx' := S m) (by rw [xZ, hsz]; exact hlen0) (by
    have h9 := JT (S m).length ((S m ++ [Ent.obj (.loop (rec .ready none))]).set st.bx.length (.obj (.loop { state := .exhausted, pending := none, fn := fnid, tmps := act.tmps, params := ps, assign := ca, body := cb, defers := w.heap.size })))
    rw [<- hsz, List.set_append_right _ _ (Nat.le_refl _)] at h9 |-
    simpa using h9) (by rw [hsz]; exact hlw)
   rw [hsz] at this
   exact this
theorem kU4 {P : Program} {nt : Nat} {F : Fr} {st : St} {a : Act} {w : World} (hd : DenM nt F st a w) {g : Operand} {x : X} (hx : qm P 0 g = some x) {d : D} (he : jL st.env [] x = some d) : ∃ K pl, Rep K pl d (a.eval g) := by
 obtain ⟨ds, _, _, _, K, pl, _, hs⟩ := hd
 exact ⟨K, pl, kI hx (fun s _ => hs s) (kF a) he⟩
theorem vk {P : Program} {nt : Nat} (hm : P.follows .mixedOrders = true) {gt : Nat -> Option (List D)} {Φ : Fr -> Prop} :
  ∀ (code : Code) (c : C), ke P nt code c = some c.bare -> (ym c = true \/ ∀ F' : Fr, F'.gt = gt -> Φ F') -> Snd P nt gt Φ code c
 | .skip, c, hc, hfl => fun F hgt hF hΦ ro n hro K Q st a w hr hd hQ => by
   cases c <;> simp [ke, C.bare] at hc
   exact wpIn_skip (hQ .nrm _ _ _ hr hd)
 | .label l, c, hc, hfl => fun F hgt hF hΦ ro n hro K Q st a w hr hd hQ => by
   cases c <;> simp [ke, C.bare] at hc
   exact wpIn_label (hQ .nrm _ _ _ hr hd)
 | .ret, c, hc, hfl => fun F hgt hF hΦ ro n hro K Q st a w hr hd hQ => by
   cases c <;> simp [ke, C.bare] at hc
   exact wpIn_ret (hQ .ret _ _ _ hr hd)
 | .exit id, c, hc, hfl => fun F hgt hF hΦ ro n hro K Q st a w hr hd hQ => by
   cases c <;> simp [ke, C.bare] at hc
   subst hc
   exact wpIn_exit (hQ (.exit id) _ _ _ hr hd)
 | .region id ops draw, c, hc, hfl => fun F hgt hF hΦ ro n hro K Q st a w hr hd hQ => by
   cases c <;> try (simp [ke] at hc; done)
   rename_i d' l' ks
   simp only [ke] at hc
   split at hc
   ·rename_i l hl
    split at hc
    ·rename_i hdr
     simp only [C.bare, Option.some.injEq, C.reg.injEq] at hc
     obtain ⟨rfl, rfl, _⟩ := hc
     simp only [run] at hr
     cases hp : jo st.env with
     | false => rw [hp] at hr; exact hr.elim
     | true =>
       rw [hp] at hr
       simp only [kJ8] at hr
       obtain ⟨ds, hg, hden⟩ := hd
       subst hgt
       have sound : draw = false \/ (VY [] [] ops.toList l' = true /\ jE4 0 ops.toList = true) -> _ := fun hd => jH5 (id := id) ro n (R := jF ks K) (F := xu F ds) (dl := ds) hm hl hd (jb9 hp) (hΦ _ (kA4 hF hg)) Va (fun a w st h hd => hQ .nrm _ _ _ h ⟨ds, hg, hd.keep ks⟩) hr hden
       rcases bO_bN hdr with h | h
       ·exact sound (.inl h)
       ·obtain ⟨h1, h2⟩ := qw.1 h
        exact sound (.inr ⟨h1, h2⟩)
    ·cases hc
   ·cases hc
 | .seq x y, c, hc, hfl => fun F hgt hF hΦ ro n hro K Q st a w hr hd hQ => by
   cases c <;> try (simp [ke] at hc; done)
   rename_i ca cb
   simp only [ke] at hc
   split at hc
   ·rename_i x' y' hx hy
    simp only [C.bare, Option.some.injEq, C.seq.injEq] at hc
    obtain ⟨rfl, rfl⟩ := hc
    simp only [run] at hr
    simp only [zw, ym, Bool.and_eq_true] at hro hfl
    refine wpIn_seq (vk hm x ca hx (hfl.imp And.left id) F hgt hF hΦ ro n (hro.imp id And.left) _ _ st a w hr hd fun e st' a' w' hk hd' => ?_)
    cases e with
    | nrm => exact vk hm y cb hy (hfl.imp And.right id) F hgt hF hΦ ro n (hro.imp id And.right) K Q st' a' w' hk hd' hQ
    | exit id => exact hQ (.exit id) _ _ _ hk hd'
    | ret => exact hQ .ret _ _ _ hk hd'
   ·cases hc
 | .cond o x y, c, hc, hfl => fun F hgt hF hΦ ro n hro K Q st a w hr hd hQ => by
   cases c <;> try (simp [ke] at hc; done)
   rename_i co ca cb
   simp only [ke] at hc
   split at hc
   ·rename_i o' x' y' ho hx hy
    simp only [C.bare, Option.some.injEq, C.ite.injEq] at hc
    obtain ⟨rfl, rfl, rfl⟩ := hc
    simp only [run] at hr
    simp only [zw, ym, Bool.and_eq_true] at hro hfl
    cases he : jL st.env [] o' with
    | none => rw [he] at hr; exact hr.elim
    | some d =>
      rw [he] at hr
      cases d <;> simp only [ky] at hr <;> try (exact hr.elim)
      rename_i t
      obtain ⟨K', pl, this⟩ := kU4 hd ho he
      simp only [Rep] at this
      refine wpIn_cond_split this (fun ht => ?_) (fun ht => ?_)
      ·exact vk hm x ca hx (hfl.imp And.left id) F hgt hF hΦ ro n (hro.imp id And.left) K Q st a w (hr.1 ht) hd hQ
      ·exact vk hm y cb hy (hfl.imp And.right id) F hgt hF hΦ ro n (hro.imp id And.right) K Q st a w (hr.2 ht) hd hQ
   ·cases hc
 | .block id x, c, hc, hfl => fun F hgt hF hΦ ro n hro K Q st a w hr hd hQ => by
   cases c <;> try (simp [ke] at hc; done)
   rename_i id' ca
   simp only [ke] at hc
   obtain ⟨x', hx, hx'⟩ := map_some hc
   simp only [C.bare, C.blk.injEq] at hx'
   obtain ⟨rfl, rfl⟩ := hx'
   simp only [run] at hr
   refine wpIn_block (vk hm x ca hx (by simpa [ym] using hfl) F hgt hF hΦ ro n (by simpa [zw] using hro) _ _ st a w hr hd fun e st' a' w' hk hd' => ?_)
   cases e with
   | nrm => exact hQ .nrm _ _ _ hk hd'
   | ret => exact hQ .ret _ _ _ hk hd'
   | exit j =>
     simp only [exO, Exit.inBlock]
     simp only [kC] at hk
     by_cases hj : j = id
     ·simp [hj] at hk |-; exact hQ .nrm _ _ _ hk hd'
     ·simp [hj] at hk |-; exact hQ (.exit j) _ _ _ hk hd'
 | .loop x, c, hc, hfl => fun F hgt hF hΦ ro n hro K Q st a w hr hd hQ => by
   cases c <;> try (simp [ke] at hc; done)
   rename_i ca
   simp only [ke] at hc
   obtain ⟨x', hx, hx'⟩ := map_some hc
   simp only [C.bare, C.loop.injEq] at hx'
   subst hx'
   simp only [run] at hr
   have hro' : ro = none := by simpa [zw] using hro
   refine Rnd.loop (jz7 (hr (fun s => ∀ a w, DenM nt F s a w -> Rnd (wr ro) n P x Q a w) fun s hs a w hd => ?_) hd)
   refine Rnd.of_wp (vk hm x ca hx (by simpa [ym] using hfl) F hgt hF hΦ ro n (.inl hro') _ _ s a w hs hd fun e st' a' w' hk hd' => ?_)
   cases e with
   | nrm => exact jz7 hk hd'
   | exit id => exact hQ (.exit id) _ _ _ hk hd'
   | ret => exact hQ .ret _ _ _ hk hd'
 | .rangeFunc g ps xa xb, c, hc, hfl => fun F hgt hF hΦ ro n hro K Q st a w hr hd hQ => by
   cases c <;> try (simp [ke] at hc; done)
   rename_i co qs ca cb
   simp only [ke] at hc
   split at hc
   ·rename_i x' a' b' hx ha hb
    split at hc
    ·rename_i hps
     simp only [C.bare, Option.some.injEq, C.rangef.injEq] at hc
     obtain ⟨rfl, rfl, rfl, rfl⟩ := hc
     simp only [run] at hr
     cases hl : (zw ca && zw cb) with
     | false => rw [hl] at hr; exact hr.elim
     | true =>
       rw [hl] at hr
       simp only [kJ8] at hr
       simp only [Bool.and_eq_true] at hl
       have hro' : ro = none := by simpa [zw] using hro
       have hΦ' : ∀ F' : Fr, F'.gt = gt -> Φ F' := by simpa [ym] using hfl
       subst hro'
       subst hgt
       exact jH7 hF hΦ' n hx (fun p hp => by simpa using List.all_eq_true.1 hps.1 p hp) hl.1 hl.2 (vk hm xa ca ha (.inl (vc hl.1))) (vk hm xb cb hb (.inl (vc hl.2))) hr hd hQ
    ·cases hc
   ·cases hc
 | .scope x, c, hc, hfl => fun F hgt hF hΦ ro n hro K Q st a w hr hd hQ => by
   simp only [ke] at hc
   refine jY0 (vk hm x c hc hfl F hgt hF hΦ ro n hro K _ st a w hr hd fun e st' a' w' hk hd' => ?_)
   have := hQ e st' a' w' hk hd'
   cases e <;> exact this
 | .goto _, c, hc, hfl => by simp [ke] at hc
 | .refuse _, c, hc, hfl => by simp [ke] at hc
def kV2 (K K' : Kn) : Prop := ∀ b o, (∀ ds, o ≠ .deferred ds) -> K b = some o -> K' b = some o
theorem Lies.monoC {K K' : Kn} (h : kV2 K K') {sz b off vs} (hl : Lies K sz b off vs) : Lies K' sz b off vs := by
 obtain ⟨cs, T, fz, h1, h2⟩ := hl; exact ⟨cs, T, fz, h _ _ nofun h1, h2⟩
theorem MapLies.monoC {K K' : Kn} (h : kV2 K K') {b kvs vvs} (hl : MapLies K b kvs vvs) : MapLies K' b kvs vvs := by
 obtain ⟨es, c, h1, h2⟩ := hl; exact ⟨es, c, h _ _ nofun h1, h2⟩
mutual
theorem Rep.monoC {K K' : Kn} {pl pl' : Pl} (hK : kV2 K K') (hp : PLe pl pl') : ∀ (d : D) (v : Value), Rep K pl d v -> Rep K' pl' d v
 | .int _ _, _, h => by simpa [Rep] using h
 | .bool _, _, h => by simpa [Rep] using h
 | .str _, _, h => by simpa [Rep] using h
 | .agg l, v, h => by
   simp only [Rep] at h |-
   obtain ⟨cs, h1, h2, h3⟩ := h
   exact ⟨cs, h1, RepL.monoC hK hp l cs h2, h3⟩
 | .tup l, v, h => by
   simp only [Rep] at h |-
   obtain ⟨cs, h1, h2⟩ := h
   exact ⟨cs, h1, RepL.monoC hK hp l cs h2⟩
 | .ls sz l, v, h => by
   simp only [Rep] at h |-
   obtain ⟨a, n, cap, h1, h2, hc, h0, h3⟩ := h
   refine ⟨a, n, cap, h1, h2, hc, h0, ?_⟩
   rcases h3 with h3 | ⟨b, off, vs, h4, h5, h6⟩
   ·exact .inl h3
   ·exact .inr ⟨b, off, vs, h4, RepL.monoC hK (PLe.refl _) l vs h5, h6.monoC hK⟩
 | .mp ks vs, v, h => by
   simp only [Rep] at h |-
   rcases h with h | ⟨b, kvs, vvs, h1, h2, h3, h4, h5⟩
   ·exact .inl h
   ·exact .inr ⟨b, kvs, vvs, h1, RepL.monoC hK (PLe.refl _) ks kvs h2, RepL.monoC hK (PLe.refl _) vs vvs h3, h4, h5.monoC hK⟩
 | .fn f l, v, h => by
   simp only [Rep] at h |-
   obtain ⟨cs, h1, h2⟩ := h
   exact ⟨cs, h1, RepL.monoC hK hp l cs h2⟩
 | .nil, _, h => by simpa only [Rep] using h
 | .boxi k off, v, h => by
   simp only [Rep] at h |-
   obtain ⟨b, h1, h2⟩ := h
   exact ⟨b, hp _ _ _ h1, h2⟩
 | .bsl k base sz len, v, h => by
   simp only [Rep] at h |-
   obtain ⟨b, o, c, h1, h2⟩ := h
   exact ⟨b, o, c, hp _ _ _ h1, h2⟩
 | .ownm k ver, v, h => by simp only [Rep] at h |-; exact ⟨hp _ _ _ h.1, h.2⟩
 | .glob g off, _, h => by simpa [Rep] using h
 | .osl k _ _ _ _, v, h => by
   simp only [Rep] at h |-
   obtain ⟨a, n, c, h1, h2⟩ := h
   exact ⟨a, n, c, hp _ _ _ h1, h2⟩
 | .yld k, v, h => by
   simp only [Rep] at h |-
   obtain ⟨b, h1, h2⟩ := h
   exact ⟨b, hp _ _ _ h1, h2⟩
 | .ifc b, _, h => by cases b <;> simpa only [Rep] using h
 | .box k off, v, h => by
   simp only [Rep] at h |-
   obtain ⟨b, h1, h2⟩ := h
   exact ⟨b, hp _ _ _ h1, h2⟩
 | .own k ver, v, h => by simp only [Rep] at h |-; exact ⟨hp _ _ _ h.1, h.2⟩
 | .el sz l i off, v, h => by
   simp only [Rep] at h |-
   obtain ⟨b, o, vs, h1, h2, h3, h4⟩ := h
   exact ⟨b, o, vs, h1, h2, RepL.monoC hK (PLe.refl _) l vs h3, h4.monoC hK⟩
 | .elo k ver sz i off, v, h => by
   simp only [Rep] at h |-
   obtain ⟨b, n, c, h1, h2⟩ := h
   exact ⟨b, n, c, hp _ _ _ h1, h2⟩
 | .any, _, _ => by simp only [Rep]
theorem RepL.monoC {K K' : Kn} {pl pl' : Pl} (hK : kV2 K K') (hp : PLe pl pl') : ∀ (l : List D) (vs : List Value), RepL K pl l vs -> RepL K' pl' l vs
 | [], _, h => by simpa [RepL] using h
 | d :: l, vs, h => by
   simp only [RepL] at h |-
   obtain ⟨v, r, h1, h2, h3⟩ := h
   exact ⟨v, r, h1, Rep.monoC hK hp d v h2, RepL.monoC hK hp l r h3⟩
end
theorem EntOk.moveC {K K' : Kn} {pl pl' : Pl} {k : Nat} {w w' : World} {e : Ent} (h : EntOk K pl w k e) (hK : kV2 K K') (hp : PLe pl pl')
  (hw : ∀ b, jW pl k e = some b -> w'.heap[b]? = w.heap[b]? /\ K' b = none) (hv : ∀ ver, pl' k ver = pl k ver) : EntOk K' pl' w' k e := by
 cases e with
 | gone => trivial
 | fresh => intro ver; rw [hv]; exact h ver
 | obj o =>
   obtain ⟨b, h1, h2, h3⟩ := h
   obtain ⟨h4, h5⟩ := hw b (xQ h1)
   exact ⟨b, by rw [hv]; exact h1, h5, by rw [h4]; exact h3⟩
 | mapx g ks vs =>
   obtain ⟨kvs, vvs, h1, h3, h4, h5, h6, h7⟩ := h
   obtain ⟨h8, h9⟩ := hw g.m (ZI h1)
   exact ⟨kvs, vvs, by rw [hv]; exact h1, h9, by rw [h8]; exact h4, RepL.monoC hK (PLe.refl _) _ _ h5, RepL.monoC hK (PLe.refl _) _ _ h6, h7⟩
 | ito g seen cur ks vs =>
   obtain ⟨r, kvs, vvs, h1, h3, h4, h5, h6, h7, q1, q2⟩ := h
   obtain ⟨h8, h9⟩ := hw r (Xw h1)
   exact ⟨r, kvs, vvs, by rw [hv]; exact h1, h9, by rw [h8]; exact h4, RepL.monoC hK (PLe.refl _) _ _ h5, RepL.monoC hK (PLe.refl _) _ _ h6, h7, q1, fun dk dv hc => by
    obtain ⟨e, he, p1, p2, p3⟩ := q2 dk dv hc
    exact ⟨e, he, p1, Rep.monoC hK (PLe.refl _) _ _ p2, Rep.monoC hK (PLe.refl _) _ _ p3⟩⟩
 | iter cur ks vs =>
   obtain ⟨r, h1, h3, h4⟩ := h
   obtain ⟨h8, h9⟩ := hw r (vC h1)
   refine ⟨r, by rw [hv]; exact h1, h9, ?_⟩
   rcases h4 with h4 | ⟨m, es, clock, seen, kvs, vvs, h4, h5, h6, h7, g1, g2, g3, g4, g5⟩
   ·exact .inl ⟨by rw [h8]; exact h4.1, h4.2⟩
   ·exact .inr ⟨m, es, clock, seen, kvs, vvs, by rw [h8]; exact h4, hK _ _ nofun h5, h6, h7, RepL.monoC hK (PLe.refl _) _ _ g1, RepL.monoC hK (PLe.refl _) _ _ g2, g3, g4, fun dk dv hc => by
     obtain ⟨e, he, q1, q2, q3⟩ := g5 dk dv hc
     exact ⟨e, he, q1, Rep.monoC hK (PLe.refl _) _ _ q2, Rep.monoC hK (PLe.refl _) _ _ q3⟩⟩
 | map ks vs =>
   obtain ⟨b, es, clock, kvs, vvs, h1, h3, h4, h5, h6, h7⟩ := h
   obtain ⟨h8, h9⟩ := hw b (zP h1)
   exact ⟨b, es, clock, kvs, vvs, by rw [hv]; exact h1, h9, by rw [h8]; exact h4, RepL.monoC hK (PLe.refl _) _ _ h5, RepL.monoC hK hp _ _ h6, h7⟩
 | cells l =>
   obtain ⟨b, T, cs, h1, h3, h4, h5, h6⟩ := h
   obtain ⟨h7, h8⟩ := hw b (vd h1)
   exact ⟨b, T, cs, by rw [hv]; exact h1, h8, by rw [h7]; exact h4, RepL.monoC hK hp _ _ h5, h6⟩
 | tcells T l =>
   obtain ⟨b, cs, h1, h3, h4, h5, h6⟩ := h
   obtain ⟨h7, h8⟩ := hw b (JM h1)
   exact ⟨b, cs, by rw [hv]; exact h1, h8, by rw [h7]; exact h4, RepL.monoC hK hp _ _ h5, h6⟩
 | arr ty sz ver rows =>
   obtain ⟨v, vs, h1, h2, h3, h4, h5, h6⟩ := h
   refine ⟨v, vs, by rw [hv]; exact h1, ?_, RepL.monoC hK (PLe.refl _) _ _ h3, h4, fun b hb => ?_, fun ver' hlt => by rw [hv]; exact h6.1 ver' hlt, h6.2⟩
   ·obtain ⟨h7, h8⟩ := h2
    refine ⟨h7, ?_⟩
    rcases h8 with h8 | ⟨g, cap, cur, rfl, h9, h10, h11⟩
    ·exact .inl h8
    ·exact .inr ⟨g, cap, cur, rfl, h9, by rw [(hw g (by simp [jW, h1, vj])).1]; exact h10, h11⟩
   ·cases v <;> simp [Value.ownBlock] at hb
    rename_i a n c
    cases a with
    | none => simp [Value.ownBlock] at hb
    | some a => exact (hw b (by simp [jW, h1, vj]; simpa [Value.ownBlock] using hb)).2
def jt7 (K : Kn) (D : Nat) : Kn := fun b => if b = D then none else K b
theorem jW1 {K : Kn} {D : Nat} (h : K D = some (.deferred (some []))) : kV2 K (jt7 K D) := fun b o ho hb => by
 unfold jt7
 split
 ·rename_i e; rw [e, h] at hb; cases hb; exact absurd rfl (ho _)
 ·exact hb
theorem jt6 {K : Kn} {D b : Nat} {o : Obj} (h : jt7 K D b = some o) : b ≠ D /\ K b = some o := by
 unfold jt7 at h
 split at h
 ·cases h
 ·rename_i e; exact ⟨e, h⟩
theorem Inv.dropMark {F : Fr} (hF : Low F) {D : Nat} {ds : List Nat} (hg : Good F (D :: ds)) {K : Kn} {pl : Pl} {bx : List Ent} {w : World} (h : Inv (xu F (D :: ds)) K pl bx w) :
  Inv (xu F ds) (jt7 K D) pl bx (w.putObj D (.deferred none)) := by
 have hKD : K D = some (.deferred (some [])) := h.le _ _ (YO (by simp))
 have hD := hg.new D (by simp)
 have hle := jW1 hKD
 have hnot : ∀ o, (xu F ds).K D ≠ some o := fun o ho => by
  rcases kd7 ho with h1 | ⟨h1, _⟩
  ·have := hF _ _ h1; omega
  ·exact (List.nodup_cons.1 hg.nodup).1 h1
 have hext : ∀ b o, b ≠ D -> ((xu F (D :: ds)).K b = some o ↔ (xu F ds).K b = some o) := fun b o hb => by
  simp only [xu, xk]; rw [if_neg hb]
 have hbl : ∀ k e b, bx[k]? = some e -> jW pl k e = some b -> b ≠ D := fun k e b hk hb e1 => by
  have := (h.tab.lt hk hb).2; rw [e1, hKD] at this; cases this
 refine ⟨?_, fun b o hb => ?_, fun b o hb => ?_, fun b o hb => ?_, ⟨fun k e hk => ?_, h.tab.sep, h.tab.free⟩, h.own, h.len, h.keep, ?_⟩
 ·refine h.chg.trans (Chg.putObj w D _) fun b hb hs => ?_
  subst hs
  have : (xu F (b :: ds)).w = F.w := jd0
  rw [this] at hb; omega
 ·obtain ⟨h1, h2⟩ := jt6 hb
  rw [World.putObj_heap_other h1]; exact h.mod _ _ h2
 ·have hne : b ≠ D := fun e => by subst e; exact hnot _ hb
  unfold jt7; rw [if_neg hne]
  exact h.le _ _ ((hext b o hne).2 hb)
 ·obtain ⟨h1, h2⟩ := jt6 hb
  rcases h.new b o h2 with h3 | h3 | h3
  ·exact .inl ((hext b o h1).1 h3)
  ·exact .inr (.inl h3)
  ·exact .inr (.inr h3)
 ·refine (h.tab.ok k e hk).moveC hle (PLe.refl _) (fun b hb => ⟨World.putObj_heap_other (hbl k e b hk hb), ?_⟩) fun _ => rfl
  unfold jt7; split
  ·rfl
  ·exact (h.tab.lt hk hb).2
 ·intro g l hgl
  obtain ⟨cs, T, fz, h1, h2, h3⟩ := h.glob g l hgl
  exact ⟨cs, T, fz, hle _ _ nofun h1, RepL.monoC hle (PLe.refl _) _ _ h2, h3⟩
theorem SlotOk.monoC {K K' pl env a s} (hK : kV2 K K') (h : SlotOk K pl env a s) : SlotOk K' pl env a s :=
 fun g d hg hf => ⟨fun hh => Rep.monoC hK (PLe.refl _) _ _ ((h g d hg hf).1 hh), (h g d hg hf).2⟩
theorem jh4 {P : Program} {fn : Func} {tmps : Array Value} {n : Nat} {R : Ending -> World -> Prop} {F : Fr} (hF : Low F) {bx : List Ent} {env : x4} {a : Act}
  (hend : ∀ K pl w, Inv F K pl bx w -> (∀ s, SlotOk K pl env a s) -> LeavesInM (wr none) n P fn tmps R [] .returning w) :
  ∀ (ds : List Nat), Good F ds -> ∀ (K : Kn) (pl : Pl) (w : World), Inv (xu F ds) K pl bx w -> (∀ s, SlotOk K pl env a s) -> LeavesInM (wr none) n P fn tmps R (jC1 ds) .returning w
 | [], _, K, pl, w, h, hs => hend K pl w h hs
 | D :: ds, hg, K, pl, w, h, hs => by
   have hKD : K D = some (.deferred (some [])) := h.le _ _ (YO (by simp))
   refine ⟨nofun, .inl ⟨D, _, rfl, run_takeDeferred (h.mod _ _ hKD), ?_⟩⟩
   exact jh4 hF hend ds ⟨(List.nodup_cons.1 hg.nodup).2, fun E hE => hg.new E (List.mem_cons_of_mem _ hE)⟩ _ _ _ (h.dropMark hF hg) fun s => (hs s).monoC (jW1 hKD)
/-! ### A function -/
def jH4 (tmps : Array Value) : ResultVar -> Sem Value
 | .tmp t => pure (tmps.getD t undef)
 | .cell a t => do loadVar t (<- asAddr (tmps.getD a undef))
theorem jR2 {P : Program} {fn : Func} {rs : List R} (hr : yv P fn.results.toList = some rs) {F : Fr} {K : Kn} {pl : Pl} {st : St} {a : Act} {w : World} (hI : Inv F K pl st.bx w) (hs : ∀ s, SlotOk K pl st.env a s)
  {l : List D} (hl : j7 st rs = some l) : ∃ v, (results fn a.tmps).run P w = .ok v w /\ Rep K pl (j9 l) v := by
 have key : ∀ (rv : List ResultVar) (rs : List R) (l : List D), yv P rv = some rs -> j7 st rs = some l ->
   ∃ vs : List Value, (rv.mapM (jH4 a.tmps)).run P w = .ok vs w /\ RepL K pl l vs := by
  intro rv
  induction rv with
  | nil =>
    intro rs l h1 h2
    simp [yv] at h1; subst h1
    simp [j7] at h2; subst h2
    exact ⟨[], by simp, by simp [RepL]⟩
  | cons r rv ih =>
    intro rs l h1 h2
    simp only [yv] at h1
    split at h1
    ·rename_i r' rs' hr' hrs'
     cases h1
     simp only [j7] at h2
     split at h2
     ·rename_i d l' hd hl'
      cases h2
      obtain ⟨vs, h3, h4⟩ := ih rs' l' hrs' hl'
      have hone : ∃ v, (jH4 a.tmps r).run P w = .ok v w /\ Rep K pl d v := by
       cases r with
       | tmp t =>
         simp [kA9] at hr'; subst hr'
         simp only [kr] at hd
         exact ⟨_, rfl, jA5 (hs t) (kF a) hd⟩
       | cell s t =>
         simp only [kA9] at hr'
         obtain ⟨n, hn, rfl⟩ := map_some hr'
         simp only [kr] at hd
         split at hd
         ·rename_i k off hk
          split at hd
          ·rename_i cl hcl
           rw [kG] at hcl
           have h5 := jA5 (hs s) (kF a) hk
           simp only [Rep] at h5
           obtain ⟨b, h6, h7⟩ := h5
           obtain ⟨b', T, cs, h8, h10, h11, h12, h13⟩ := hI.tab.ok k _ hcl
           rw [h6] at h8; cases h8
           have hr : w.rangeAt b 0 cs := qJ h11 (by simp)
           obtain ⟨v, h14, h15⟩ := vN hn h12 h13 hr hd
           simp only [Nat.zero_add] at h14
           refine ⟨v, ?_, h15⟩
           simp only [jH4, h7]
           simpa [Instr.loadAt, asAddr, Instr.sureAddr] using h14
          ·cases hd
         ·cases hd
      obtain ⟨v, h5, h6⟩ := hone
      refine ⟨v :: vs, ?_, by simp only [RepL]; exact ⟨v, vs, rfl, h6, h4⟩⟩
      rw [List.mapM_cons]
      simp only [Sem.run_bind, h5, Result.andThen_ok]
      rw [h3]
      simp
     ·cases h2
    ·cases h1
 obtain ⟨vs, h1, h2⟩ := key _ _ _ hr hl
 have hlen := h2.length
 refine ⟨if h : vs.length = 1 then vs[0] else .tuple vs.toArray, ?_, ?_⟩
 ·have e : results fn a.tmps = (do let vs <- fn.results.mapM (jH4 a.tmps); pure (if h : vs.size = 1 then vs[0] else .tuple vs)) := rfl
  rw [e, Array.mapM_eq_mapM_toList]
  simp [Sem.run_bind, h1]
 ·rcases l with _ | ⟨d, _ | ⟨e, l⟩⟩
  ·simp [RepL] at h2; subst h2
   simp [j9, Rep, RepL]
  ·simp only [RepL] at h2
   obtain ⟨v, r, rfl, h3, rfl⟩ := h2
   simpa [j9] using h3
  ·rw [dif_neg (by simp at hlen; omega)]
   simp only [j9, Rep]
   exact ⟨vs, rfl, h2⟩
theorem jV7 {d : D} {g : G} {s : Nat} : ∀ {ds : List D} {n : Nat}, get (env0 n ds) s = some (g, d) -> g = [] /\ n <= s /\ ds[s - n]? = some d
 | [], n, h => by simp [env0, get] at h
 | x :: ds, n, h => by
   simp only [env0, get] at h
   cases hns : n == s with
   | true =>
     simp [hns] at h
     obtain ⟨rfl, rfl⟩ := h
     have : n = s := by simpa using hns
     subst this
     simp
   | false =>
     simp [hns] at h
     obtain ⟨h1, h2, h3⟩ := jV7 h
     have : s - n = (s - (n + 1)) + 1 := by omega
     refine ⟨h1, by omega, ?_⟩
     rw [this]; simpa using h3
def Rt (n0 : Nat) (bx1 : List Ent) (d1 d : D) (bx' : List Ent) : Prop := ∀ (F : Fr) (K : Kn) (pl : Pl) (w : World) (v : Value), F.n0 = n0 -> Inv F K pl bx1 w -> Rep K pl d1 v -> ∃ K' pl', Inv F K' pl' bx' w /\ Rep K' pl' d v
theorem jE1 {P : Program} (hm : P.follows .mixedOrders = true) {f : FuncId} {fn : Func} {c : C} {rs : List R} (hf : P.funcs[f]? = some fn) (hc : (fn.body.bind fun code => ke P fn.ntmps code c) = some c.bare) (hr : yv P fn.results.toList = some rs)
  {F : Fr} (hF : Low F) {Φ : Fr -> Prop} (hΦ : ∀ F', FLe F F' -> Φ F') (hfl : ym c = true \/ ∀ F' : Fr, F'.gt = F.gt -> Φ F') {ds : List D} (hn : ds.length <= fn.ntmps) {K : Kn} {pl : Pl} {bx : List Ent} {w : World} {vs : Array Value} (hI : Inv F K pl bx w) (hrep : RepL K pl ds vs.toList)
  {Kf : Ex -> St -> Prop} (h : run (jX6 P F.gt Φ) F.gt F.n0 c Kf ⟨env0 0 ds, bx⟩) {R : Ending -> World -> Prop}
  (hend : ∀ e st, Kf e st -> e = .nrm \/ e = .ret) (hfin : ∀ e st, Kf e st -> ∃ l, j7 st rs = some l /\ ∀ K' pl' w' v, Inv F K' pl' st.bx w' -> Rep K' pl' (j9 l) v -> R (.returned v) w') : Calls P f vs w R := by
 cases hb : fn.body with
 | none => rw [hb] at hc; cases hc
 | some code =>
   rw [hb] at hc
   refine ji0 (ro := none) (n := 0) (callsIn_of_wp_marks (F := wr none) hf hb trivial ?_)
   have hlen := hrep.length
   have hsz : vs.size = ds.length := by simpa using hlen
   refine vk (gt := F.gt) (Φ := Φ) hm code c hc hfl F rfl hF hΦ none 0 (.inl rfl) _ _ _ _ _ h ?_ ?_
   ·refine DenM.mk (by simp; omega) rfl hI (fun s g d hg hf => ?_)
    obtain ⟨rfl, _, h1⟩ := jV7 hg
    refine ⟨fun _ => ?_, fun h => absurd (kF _) h⟩
    obtain ⟨v, h2, h3⟩ := RepL.get s hrep (by simpa using h1)
    have hlt := (List.getElem?_eq_some_iff.1 h2).1
    have : ((vs ++ Array.replicate (fn.ntmps - vs.size) undef).getD s undef) = v := by
     rw [Array.getD_eq_getD_getElem?, Array.getElem?_append_left (by simpa using hlt)]
     have : vs[s]? = some v := by simpa using h2
     simp [this]
    simp only [this]; exact h3
   ·intro e st a w' hk hd
    obtain ⟨ds', hg, h1, h2, K', pl', hI', hs⟩ := hd
    have key : LeavesInM (wr none) 0 P fn a.tmps R a.defers .returning w' := by
     rw [h2]
     refine jh4 hF (env := st.env) (a := a) (bx := st.bx) (fun K2 pl2 w2 hI2 hs2 => ?_) ds' hg K' pl' w' hI' hs
     obtain ⟨l, hl, hR⟩ := hfin e st hk
     obtain ⟨v, hrun, hrepv⟩ := jR2 hr hI2 hs2 hl
     exact ⟨v, hrun, hR _ _ _ v hI2 hrepv⟩
    rcases hend e st hk with rfl | rfl
    ·exact key
    ·exact key
theorem jR1 {rs : List R} {Ft : D -> List Ent -> Prop} : ∀ e st, qX rs Ft e st -> e = .nrm \/ e = .ret
 | .nrm, _, _ => .inl rfl
 | .ret, _, _ => .inr rfl
theorem jR0 {rs : List R} {Ft : D -> List Ent -> Prop} : ∀ e st, qX rs Ft e st -> ∃ l, j7 st rs = some l /\ Ft (j9 l) st.bx
 | .nrm, st, h => by
   simp only [qX] at h
   cases hl : j7 st rs with
   | none => rw [hl] at h; exact h.elim
   | some l => rw [hl] at h; exact ⟨l, rfl, h⟩
 | .ret, st, h => by
   simp only [qX] at h
   cases hl : j7 st rs with
   | none => rw [hl] at h; exact h.elim
   | some l => rw [hl] at h; exact ⟨l, rfl, h⟩
theorem jv1 {P : Program} {gt : Nat -> Option (List D)} (hm : P.follows .mixedOrders = true) {f : FuncId} {fn : Func} {c : C} {rs : List R} (hf : P.funcs[f]? = some fn) (hnm : (fn.name == "runtime.NumGoroutine") = false) (hc : (fn.body.bind fun code => ke P fn.ntmps code c) = some c.bare) (hr : yv P fn.results.toList = some rs)
  {ds : List D} {d : D} {bx bx' : List Ent} {Ft : D -> List Ent -> Prop} (hn : ds.length <= fn.ntmps) (h : run (jE6 P gt) gt bx.length c (qX rs Ft) ⟨env0 0 ds, bx⟩) (hfin : ∀ d1 bx1, Ft d1 bx1 -> Rt bx.length bx1 d1 d bx') : SpM P gt f ds bx d bx' := by
 refine ⟨⟨fn, hf, hnm, by cases hb : fn.body with | none => rw [hb] at hc; cases hc | some _ => rfl⟩, fun K pl w vs hmod hglob htab hrep => ?_⟩
 let F : Fr := ⟨Own pl bx, w, K, bx.length, pl, gt⟩
 have hI : Inv F K pl bx w := ⟨Chg.refl _ _, hmod, KLe.refl _, fun b o h => .inl h, htab, fun k e b hk hb => .inl ⟨k, e, hk, hb⟩, Nat.le_refl _, fun k ver x _ h => h, hglob⟩
 refine jE1 (F := F) hm hf hc hr (Low.of_mod hmod) (Φ := fun F' => F'.gt = gt) (fun F' h => h.gt) (.inr fun F' h => h) hn hI hrep h jR1 fun e st hk => ?_
 obtain ⟨l, hl, hF⟩ := jR0 e st hk
 refine ⟨l, hl, fun K' pl' w' v hI' hv => ?_⟩
 obtain ⟨K2, pl2, h5, h6⟩ := hfin _ _ hF F K' pl' w' v rfl hI' hv
 exact ⟨v, K2, pl2, rfl, h5, h6⟩
theorem Y6 {P : Program} {gt : Nat -> Option (List D)} (hm : P.follows .mixedOrders = true) {f : FuncId} {fn : Func} (c : C) (rs : List R) (hf : P.funcs[f]? = some fn) (hnm : (fn.name == "runtime.NumGoroutine") = false) (hc : (fn.body.bind fun code => ke P fn.ntmps code c) = some c.bare) (hr : yv P fn.results.toList = some rs) (hfl : ym c = true)
  {caps : List D} {xs : List (List D)} {Kp : List Ent -> Prop} (hn : Nat.ble (caps.length + 1) fn.ntmps = true)
  (h : ∀ (y m : Nat) (S : Nat -> List Ent) (bs : List Ent) (n : Nat) (F1 : Fr), F1.n0 = n -> m <= xs.length -> y < n -> (∀ i, i <= m -> jD (S i) = n /\ k8 n (S i) = true /\ ∃ b0 o, S i = jX b0 (.obj o) /\ Kp b0) -> jD bs = n -> k8 n bs = true ->
    (∀ i x, i < m -> xs[i]? = some x -> ∀ ts, PrD P (FLe F1) (.yld ts) (.yld y :: x) (S i) (.bool true) (S (i + 1))) -> (∀ x, xs[m]? = some x -> ∀ ts, PrD P (FLe F1) (.yld ts) (.yld y :: x) (S m) (.bool false) bs) ->
    run (jX6 P gt (FLe F1)) gt n c (qX rs fun _ b' => Vf b' (QD S m xs.length bs)) ⟨env0 0 (.yld y :: caps), S 0⟩) : jX8 P gt f caps xs Kp := by
 refine ⟨⟨fn, hf, hnm, by cases hb : fn.body with | none => rw [hb] at hc; cases hc | some _ => rfl⟩, fun y m S bs bx K pl w vs hmod hglob htab hrep h0 hmx hy hS hbs hbl h1 h2 => ?_⟩
 let F : Fr := ⟨Own pl bx, w, K, bx.length, pl, gt⟩
 have hI : Inv F K pl bx w := ⟨Chg.refl _ _, hmod, KLe.refl _, fun b o h => .inl h, htab, fun k e b hk hb => .inl ⟨k, e, hk, hb⟩, Nat.le_refl _, fun k ver x _ h => h, hglob⟩
 have hrun := h y m S bs bx.length F rfl hmx hy (fun i hi => by rw [kK]; exact hS i hi) (by rw [kK]; exact hbs) hbl h1 h2
 rw [h0] at hrun
 refine jE1 (F := F) hm hf hc hr (Low.of_mod hmod) (Φ := FLe F) (fun F' h => h) (.inl hfl) (by simpa using Nat.le_of_ble_eq_true hn) hI hrep hrun jR1 fun e st hk => ?_
 obtain ⟨l, hl, hF⟩ := jR0 e st hk
 refine ⟨l, hl, fun K' pl' w' v hI' hv => ?_⟩
 have hlen : (QD S m xs.length bs).length = bx.length /\ k8 bx.length (QD S m xs.length bs) = true := by
  unfold QD
  split
  ·exact ⟨hbs, hbl⟩
  ·exact ⟨(hS m (Nat.le_refl _)).1, (hS m (Nat.le_refl _)).2.1⟩
 exact ⟨v, K', _, rfl, hI'.cut (bx' := QD S m xs.length bs) (by show bx.length <= _; omega) hF (by rw [hlen.1]; exact hlen.2)⟩
theorem Rt.lend {bx1 : List Ent} {d1 d : D} {q : List Prop} {o : Bool} (h : lend bx1 d1 = some (q, o, d)) (hq : ∀ p ∈ q, p) : Rt 0 bx1 d1 d [] := by
 intro F K pl w v h0 hI hr
 refine ⟨QC K pl bx1 w, vK, ⟨hI.chg, jC3 hI.mod, hI.le.trans (yi _ _ _ _), fun b o' hb => ?_, ⟨fun k e h => by simp at h, fun i j e f b _ h => by simp at h, fun _ _ _ => rfl⟩, fun k e b h => by simp at h, by rw [h0]; exact Nat.zero_le _, fun k ver x hk => by rw [h0] at hk; omega, hI.glob.mono (yi _ _ _ _)⟩, (kj2 hI.tab _ q o _ v h hq hr).1⟩
 unfold QC at hb
 split at hb
 ·rename_i o2 ho2
  cases hb
  exact hI.new b _ ho2
 ·split at hb
  ·rename_i hex
   obtain ⟨k, e, h5, h6⟩ := hex
   exact .inr (hI.own k _ b h5 h6)
  ·cases hb
theorem Rt.id {n0 : Nat} {bx : List Ent} {d : D} : Rt n0 bx d d bx := fun F K pl w v _ hI hr => ⟨K, pl, hI, hr⟩
theorem Rt.cut {n0 : Nat} {bx bx' : List Ent} {d : D} (h0 : n0 <= bx'.length) (h1 : Vf bx bx') (h2 : k8 bx'.length bx' = true) (h3 : low bx'.length d = true) : Rt n0 bx d d bx' :=
 fun F K pl w v hF hI hr => ⟨K, Jw bx'.length pl, hI.cut (by rw [hF]; exact h0) h1 h2, jJ9 d v h3 hr⟩
theorem Rt.frz {n0 : Nat} {bx bx' : List Ent} {d d' : D} {q : List Prop} (h : frz bx d = some (q, d', bx')) (hq : ∀ p ∈ q, p) : Rt n0 bx d d' bx' := fun F K pl w v _ hI hr => by
 obtain ⟨K', h1, h2, h3⟩ := kd4 d h hq hI hr
 exact ⟨K', pl, h2, Rep.mono (KLe.refl _) (PLe.zero _) _ _ h3⟩
theorem Rt.trans {n0 : Nat} {bx1 bx2 bx3 : List Ent} {d1 d2 d3 : D} (h : Rt n0 bx1 d1 d2 bx2) (h' : Rt n0 bx2 d2 d3 bx3) : Rt n0 bx1 d1 d3 bx3 := fun F K pl w v hF hI hr => by
 obtain ⟨K', pl', h1, h2⟩ := h F K pl w v hF hI hr
 exact h' F K' pl' w v hF h1 h2
theorem kn2 {R : D -> Prop} {o : Option (List Prop × Bool × D)} (h : kx R o) : ∃ q b d, o = some (q, b, d) /\ (∀ p ∈ q, p) /\ R d := by
 cases o with
 | none => exact h.elim
 | some x =>
   obtain ⟨q, b, d⟩ := x
   obtain ⟨h1, h2⟩ := qE h
   exact ⟨q, b, d, rfl, h1, h2⟩
end Go.AM
set_option linter.all false
namespace Go.AM
open Go
mutual
theorem jB0 {K K' : Kn} {pl pl' : Pl} : ∀ (d : D) (v : Value), yP d = true -> Rep K pl d v -> Rep K' pl' d v
 | .int _ _, _, _, h => by simpa [Rep] using h
 | .bool _, _, _, h => by simpa [Rep] using h
 | .str _, _, _, h => by simpa [Rep] using h
 | .ls _ _, _, hc, _ => by simp [yP] at hc
 | .agg l, v, hc, h => by simp [yP] at hc
 | .tup l, v, hc, h => by simp [yP] at hc
 | .mp _ _, _, hc, _ => by simp [yP] at hc
 | .fn _ _, _, hc, _ => by simp [yP] at hc
 | .nil, _, hc, _ => by simp [yP] at hc
 | .glob _ _, _, hc, _ => by simp [yP] at hc
 | .ifc _, _, hc, _ => by simp [yP] at hc
 | .yld _, _, hc, _ => by simp [yP] at hc
 | .osl _ _ _ _ _, _, hc, _ => by simp [yP] at hc
 | .boxi _ _, _, hc, _ => by simp [yP] at hc
 | .bsl _ _ _ _, _, hc, _ => by simp [yP] at hc
 | .ownm _ _, _, hc, _ => by simp [yP] at hc
 | .box _ _, _, hc, _ => by simp [yP] at hc
 | .own _ _, _, hc, _ => by simp [yP] at hc
 | .el _ _ _ _, _, hc, _ => by simp [yP] at hc
 | .elo _ _ _ _ _, _, hc, _ => by simp [yP] at hc
 | .any, _, hc, _ => by simp [yP] at hc
theorem Xi {K K' : Kn} {pl pl' : Pl} : ∀ (l : List D) (vs : List Value), kg9 l = true -> RepL K pl l vs -> RepL K' pl' l vs
 | [], _, _, h => by simpa [RepL] using h
 | d :: l, vs, hc, h => by
   simp only [RepL] at h |-
   obtain ⟨v, r, h1, h2, h3⟩ := h
   simp only [kg9, Bool.and_eq_true] at hc
   exact ⟨v, r, h1, jB0 d v hc.1 h2, Xi l r hc.2 h3⟩
end
theorem jB1 {K K' : Kn} {pl pl' : Pl} {d : D} {v : Value} (hp : VU d = true) (h : Rep K pl d v) : Rep K' pl' d v := by
 cases d with
 | agg l =>
   simp only [Rep] at h |-
   obtain ⟨cs, h1, h2, h3⟩ := h
   exact ⟨cs, h1, Xi l cs (by simpa [VU] using hp) h2, h3⟩
 | tup l =>
   simp only [Rep] at h |-
   obtain ⟨cs, h1, h2⟩ := h
   exact ⟨cs, h1, Xi l cs (by simpa [VU] using hp) h2⟩
 | _ => exact jB0 _ _ (by simpa [VU] using hp) h
section
variable {P : Program} {gt : Nat -> Option (List D)} {f : Nat} {ds ds' : List D} {d : D} {bx bx' bx'' : List Ent}
theorem Inv.start {K : Kn} {pl : Pl} {w : World} (hmod : ∀ b o, K b = some o -> w.heap[b]? = some o) (hglob : GlobOk gt K) (htab : Tab K pl w bx) : Inv ⟨Own pl bx, w, K, bx.length, pl, gt⟩ K pl bx w :=
 ⟨Chg.refl _ _, hmod, KLe.refl _, fun b o h => .inl h, htab, fun k e b hk hb => .inl ⟨k, e, hk, hb⟩, Nat.le_refl _, fun k ver x _ h => h, hglob⟩
theorem Own.nil {pl : Pl} {b : Nat} : ¬ Own pl [] b := fun ⟨k, e, h, _⟩ => by simp at h
theorem Sp.lift (h : Sp P gt f ds d) (hc : jV ds = true) : SpM P gt f ds bx d bx := by
 refine ⟨h.1, fun K pl w vs hmod hglob htab hrep => ?_⟩
 refine (h.2 K vK w vs hmod hglob ⟨fun k e h => by simp at h, fun i j e f b _ h => by simp at h, fun _ _ _ => rfl⟩ (zj _ _ hc hrep)).mono ?_
 rintro e w' ⟨v, K', pl', rfl, hI, hr⟩
 have hpl : pl' = vK := by funext k ver; exact hI.tab.free k ver (Nat.zero_le _)
 subst hpl
 have hn : ∀ b, ¬ Own vK [] b := fun b => Own.nil
 refine ⟨v, K', pl, rfl, ⟨⟨hI.chg.os, hI.chg.tape, hI.chg.output, hI.chg.size, fun k hk _ => hI.chg.block k hk (hn k)⟩, hI.mod, hI.le, fun b o hb => ?_, htab.move hI.le fun b h1 h2 _ => ⟨hI.chg.block b h1 (hn b), ?_⟩, fun k e b hk hb => .inl ⟨k, e, hk, hb⟩, Nat.le_refl _, fun k ver x _ h => h, hI.glob⟩, Rep.mono (KLe.refl _) (PLe.zero _) _ _ hr⟩
 ·rcases hI.new b o hb with h | h | h
  ·exact .inl h
  ·exact absurd h (hn b)
  ·exact .inr (.inr h)
 ·cases hK : K' b with
  | none => rfl
  | some o =>
    rcases hI.new b o hK with h | h | h
    ·have h : K b = some o := h
     rw [h2] at h; cases h
    ·exact absurd h (hn b)
    ·have : w.heap.size <= b := h
     omega
theorem Sp.lent {q : List Prop} {o : Bool} (h : Sp P gt f ds' d) (hl : kA bx ds = some (q, o, ds')) (hq : ∀ p ∈ q, p) (hp : VU d = true) : SpM P gt f ds bx d bx := by
 refine ⟨h.1, fun K pl w vs hmod hglob htab hrep => ?_⟩
 have hle := yi K pl bx w
 refine (h.2 (QC K pl bx w) vK w vs (jC3 hmod) (hglob.mono hle) ⟨fun k e h => by simp at h, fun i j e f b _ h => by simp at h, fun _ _ _ => rfl⟩ (ZB htab _ _ _ _ _ hl hq hrep).1).mono ?_
 rintro e w' ⟨v, K', pl', rfl, hI, hr⟩
 have hn : ∀ b, ¬ Own vK [] b := fun b => Own.nil
 have hblk : ∀ k, k < w.heap.size -> w'.heap[k]? = w.heap[k]? := fun k hk => hI.chg.block k hk (hn k)
 refine ⟨v, K, pl, rfl, ⟨⟨hI.chg.os, hI.chg.tape, hI.chg.output, hI.chg.size, fun k hk _ => hblk k hk⟩, fun b o hb => ?_, KLe.refl _, fun b o hb => .inl hb, htab.move (KLe.refl _) fun b h1 h2 _ => ⟨hblk b h1, h2⟩, fun k e b hk hb => .inl ⟨k, e, hk, hb⟩, Nat.le_refl _, fun k ver x _ h => h, hglob⟩, jB1 hp hr⟩
 have hb' := hmod b o hb
 rw [hblk b (Array.getElem?_eq_some_iff.1 hb').1]; exact hb'
theorem SpM.frz {q : List Prop} (h : SpM P gt f ds' bx' d bx'') (hf : jx6 bx ds = some (q, ds', bx')) (hq : ∀ p ∈ q, p) : SpM P gt f ds bx d bx'' := by
 refine ⟨h.1, fun K pl w vs hmod hglob htab hrep => ?_⟩
 have hI0 := Inv.start hmod hglob htab
 obtain ⟨K1, h1, h2, h3⟩ := Z9 _ hf hq hI0 hrep
 refine (h.2 K1 pl w vs h2.mod h2.glob h2.tab (RepL.mono (KLe.refl _) (PLe.zero _) _ _ h3)).mono ?_
 rintro e w' ⟨v, K', pl', rfl, hI, hr⟩
 obtain ⟨_, _, h6⟩ := h2.then hI
 exact ⟨v, K', pl', rfl, h6, hr⟩
theorem SpM.conv {ds2 : List D} {d2 : D} {bx2 : List Ent} (h : SpM P gt f ds bx d bx') (h1 : ds = ds2) (h2 : d = d2) (h3 : bx' = bx2) : SpM P gt f ds2 bx d2 bx2 := by subst h1; subst h2; subst h3; exact h
theorem Sp.conv {ds2 : List D} {d2 : D} (h : Sp P gt f ds d) (h1 : ds = ds2) (h2 : d = d2) : Sp P gt f ds2 d2 := by subst h1; subst h2; exact h
end
/-! ### Some entries alone are handed on, under other numbers -/
def z6 : List Nat -> Nat -> Nat -> Nat
 | [], n, j => n + j
 | k :: _, _, 0 => k
 | _ :: ks, n, j + 1 => z6 ks n j
mutual
def kV (ks : List Nat) (n : Nat) : D -> D
 | .box k off => .box (z6 ks n k) off
 | .boxi k off => .boxi (z6 ks n k) off
 | .bsl k b s l => .bsl (z6 ks n k) b s l
 | .own k ver => .own (z6 ks n k) ver
 | .ownm k ver => .ownm (z6 ks n k) ver
 | .elo k ver sz i off => .elo (z6 ks n k) ver sz i off
 | .agg l => .agg (qY ks n l)
 | .tup l => .tup (qY ks n l)
 | .fn f l => .fn f (qY ks n l)
 | .int k m => .int k m
 | .bool b => .bool b
 | .str s => .str s
 | .ls sz l => .ls sz l
 | .mp a b => .mp a b
 | .nil => .nil
 | .el sz l i off => .el sz l i off
 | .glob g off => .glob g off
 | .ifc b => .ifc b
 | .yld k => .yld (z6 ks n k)
 | .osl k ver sz off len => .osl (z6 ks n k) ver sz off len
 | .any => .any
def qY (ks : List Nat) (n : Nat) : List D -> List D
 | [] => []
 | d :: l => kV ks n d :: qY ks n l
end
def zp (ks0 : List Nat) (n : Nat) : Ent -> Ent
 | .cells l => .cells (qY ks0 n l)
 | .arr e sz ver rows => .arr e sz ver rows
 | .tcells T l => .tcells T (qY ks0 n l)
 | .gone => .gone
 | .fresh => .fresh
 | .obj o => .obj o
 | .map ks vs => .map ks (qY ks0 n vs)
 | .iter c ks vs => .iter c ks vs
 | .mapx g ks vs => .mapx g ks vs
 | .ito g s c ks vs => .ito g s c ks vs
def kM (ks : List Nat) (n : Nat) : List Ent -> List Ent
 | [] => []
 | e :: l => zp ks n e :: kM ks n l
def kO : List Ent -> List Nat -> List Ent -> List Ent
 | bx, [], es => List.append bx es
 | bx, k :: ks, e :: es => kO (jQ bx k e) ks es
 | bx, _ :: _, [] => bx
def Ko (bx : List Ent) : List Nat -> Option (List Ent)
 | [] => some []
 | k :: ks => match jI bx k, Ko bx ks with
   | some e, some l => some (e :: l)
   | _, _ => none
def jc1 : List Nat -> Bool
 | [] => true
 | k :: ks => bA (bN (YI ks k)) (jc1 ks)
section
theorem jA2 {ks : List Nat} {n : Nat} : ∀ {l : List Ent} {i : Nat} {e : Ent}, (kM ks n l)[i]? = some e -> ∃ e0, l[i]? = some e0 /\ e = zp ks n e0
 | [], i, e, h => by simp [kM] at h
 | x :: l, 0, e, h => by simp [kM] at h; exact ⟨x, by simp, h.symm⟩
 | x :: l, i + 1, e, h => by simp [kM] at h; simpa using jA2 h
theorem yT {ks : List Nat} {n : Nat} : ∀ {l : List Ent} {i : Nat} {e : Ent}, l[i]? = some e -> (kM ks n l)[i]? = some (zp ks n e)
 | [], i, e, h => by simp at h
 | x :: l, 0, e, h => by simp at h; simp [kM, h]
 | x :: l, i + 1, e, h => by simp at h; simpa [kM] using yT h
theorem J1 {ks : List Nat} {n : Nat} : ∀ {l : List Ent}, (kM ks n l).length = l.length
 | [] => rfl
 | x :: l => by simp [kM, J1 (l := l)]
def sg : List Nat -> Nat -> Nat -> Option Nat
 | [], n, k => if n <= k then some (k - n) else none
 | k0 :: ks, n, k => if k = k0 then some 0 else (sg ks n k).map (· + 1)
theorem jB8 {k : Nat} {ks : List Nat} (h : jc1 (k :: ks) = true) : k ∉ ks /\ jc1 ks = true := by
 simp only [jc1] at h
 obtain ⟨h1, h2⟩ := qw.1 h
 refine ⟨fun hm => ?_, h2⟩
 have := ZU.1 h1
 rw [yk.2 hm] at this; cases this
theorem jH1 {n : Nat} : ∀ {ks : List Nat} {j : Nat}, z6 ks n j ∈ ks \/ n <= z6 ks n j
 | [], j => .inr (by simp [z6])
 | k :: ks, 0 => .inl (by simp [z6])
 | k :: ks, j + 1 => by
   rcases jH1 (ks := ks) (j := j) (n := n) with h | h
   ·exact .inl (by simp [z6, h])
   ·exact .inr h
theorem Zc {n : Nat} : ∀ {ks : List Nat} {j : Nat}, jc1 ks = true -> (∀ k ∈ ks, k < n) -> sg ks n (z6 ks n j) = some j
 | [], j, _, _ => by simp [sg, z6]
 | k :: ks, 0, _, _ => by simp [sg, z6]
 | k :: ks, j + 1, h, hlt => by
   obtain ⟨h1, h2⟩ := jB8 h
   have hne : z6 ks n j ≠ k := fun e => by
    rcases jH1 (ks := ks) (j := j) (n := n) with h | h
    ·rw [e] at h; exact h1 h
    ·have := hlt k (by simp); omega
   simp [sg, z6, hne, Zc h2 fun x hx => hlt x (by simp [hx])]
theorem jp3 {n : Nat} : ∀ {ks : List Nat} {k j : Nat}, sg ks n k = some j -> z6 ks n j = k
 | [], k, j, h => by
   simp only [sg] at h
   split at h
   ·simp at h; simp [z6]; omega
   ·cases h
 | k0 :: ks, k, j, h => by
   simp only [sg] at h
   split at h
   ·rename_i e; simp at h; subst h; simp [z6, e]
   ·cases hs : sg ks n k with
    | none => rw [hs] at h; cases h
    | some j' => rw [hs] at h; simp at h; subst h; simp [z6, jp3 hs]
theorem jb6 {n : Nat} : ∀ {ks : List Nat} {j : Nat}, ks.length <= j -> z6 ks n j = n + (j - ks.length)
 | [], j, _ => by simp [z6]
 | k :: ks, 0, h => by simp at h
 | k :: ks, j + 1, h => by simp only [z6]; rw [jb6 (by simpa using h)]; simp
theorem ku9 {n : Nat} : ∀ {ks : List Nat} {j : Nat}, j < ks.length -> z6 ks n j ∈ ks
 | [], j, h => by simp at h
 | k :: ks, 0, h => by simp [z6]
 | k :: ks, j + 1, h => by simp only [z6]; exact List.mem_cons_of_mem _ (ku9 (by simpa using h))
theorem jH2 {n : Nat} {k : Nat} : ∀ {ks : List Nat}, k ∈ ks -> ∃ j, j < ks.length /\ z6 ks n j = k
 | [], h => by cases h
 | k0 :: ks, h => by
   rcases List.mem_cons.1 h with rfl | h
   ·exact ⟨0, by simp, rfl⟩
   ·obtain ⟨j, h1, h2⟩ := jH2 (n := n) h; exact ⟨j + 1, by simp; omega, h2⟩
theorem jq3 : ∀ {ks : List Nat} {bx es : List Ent} (k : Nat), jc1 ks = true -> (∀ k ∈ ks, k < bx.length) -> ks.length <= es.length -> (kO bx ks es)[k]? = match sg ks bx.length k with | some j => es[j]? | none => bx[k]?
 | [], bx, es, k, _, _, _ => by
   simp only [kO, sg]
   show (bx ++ es)[k]? = _
   rw [List.getElem?_append]
   by_cases h : k < bx.length
   ·rw [if_pos h, if_neg (by omega)]
   ·rw [if_neg h, if_pos (by omega)]
 | k0 :: ks, bx, [], k, _, _, h => by simp at h
 | k0 :: ks, bx, e :: es, k, hk, hlt, hl => by
   obtain ⟨h1, h2⟩ := jB8 hk
   have h0 := hlt k0 (by simp)
   simp only [kO, qF]
   rw [jq3 (ks := ks) (bx := bx.set k0 e) k h2 (fun x hx => by rw [List.length_set]; exact hlt x (by simp [hx])) (by simpa using hl)]
   simp only [List.length_set, sg]
   by_cases he : k = k0
   ·subst he
    have hn : sg ks bx.length k = none := by
     cases hs : sg ks bx.length k with
     | none => rfl
     | some j =>
       have := jp3 hs
       rcases jH1 (ks := ks) (j := j) (n := bx.length) with h | h
       ·rw [this] at h; exact absurd h h1
       ·omega
    rw [hn]; simp [h0]
   ·rw [if_neg he]
    cases hs : sg ks bx.length k with
    | none => simp [List.getElem?_set, Ne.symm he]
    | some j => simp
theorem Xg : ∀ {ks : List Nat} {bx es : List Ent}, ks.length <= es.length -> (kO bx ks es).length = bx.length + (es.length - ks.length)
 | [], bx, es, _ => by simp only [kO]; show (bx ++ es).length = _; simp
 | k :: ks, bx, [], h => by simp at h
 | k :: ks, bx, e :: es, h => by simp only [kO, qF]; rw [Xg (by simpa using h)]; simp
theorem jd1 {bx : List Ent} {n : Nat} : ∀ {ks : List Nat} {es : List Ent}, Ko bx ks = some es -> es.length = ks.length /\ ∀ (j : Nat) (e : Ent), es[j]? = some e -> bx[z6 ks n j]? = some e
 | [], es, h => by simp [Ko] at h; subst h; exact ⟨rfl, fun j e h => by simp at h⟩
 | k :: ks, es, h => by
   simp only [Ko] at h
   split at h
   ·rename_i e l he hl
    cases h
    obtain ⟨h1, h2⟩ := jd1 (n := n) hl
    refine ⟨by simp [h1], fun j x hx => ?_⟩
    cases j with
    | zero => simp at hx; subst hx; rw [kG] at he; simpa [z6] using he
    | succ j => simp only [z6]; exact h2 j x (by simpa using hx)
   ·cases h
mutual
theorem jR6 {K : Kn} {pl plc : Pl} {ks : List Nat} {n : Nat} (h : ∀ j ver x, pl (z6 ks n j) ver = some x -> plc j ver = some x) : ∀ (d : D) (v : Value), Rep K pl (kV ks n d) v -> Rep K plc d v
 | .box k off, v, hr => by simp only [kV, Rep] at hr |-; obtain ⟨b, h1, h2⟩ := hr; exact ⟨b, h _ _ _ h1, h2⟩
 | .yld k, v, hr => by simp only [kV, Rep] at hr |-; obtain ⟨b, h1, h2⟩ := hr; exact ⟨b, h _ _ _ h1, h2⟩
 | .osl k _ _ _ _, v, hr => by simp only [kV, Rep] at hr |-; obtain ⟨a, n, c, h1, h2⟩ := hr; exact ⟨a, n, c, h _ _ _ h1, h2⟩
 | .boxi k off, v, hr => by simp only [kV, Rep] at hr |-; obtain ⟨b, h1, h2⟩ := hr; exact ⟨b, h _ _ _ h1, h2⟩
 | .bsl k b s l, v, hr => by simp only [kV, Rep] at hr |-; obtain ⟨b, o, c, h1, h2⟩ := hr; exact ⟨b, o, c, h _ _ _ h1, h2⟩
 | .own k ver, v, hr => by simp only [kV, Rep] at hr |-; exact ⟨h _ _ _ hr.1, hr.2⟩
 | .ownm k ver, v, hr => by simp only [kV, Rep] at hr |-; exact ⟨h _ _ _ hr.1, hr.2⟩
 | .elo k ver sz i off, v, hr => by simp only [kV, Rep] at hr |-; obtain ⟨b, m, c, h1, h2⟩ := hr; exact ⟨b, m, c, h _ _ _ h1, h2⟩
 | .agg l, v, hr => by simp only [kV, Rep] at hr |-; obtain ⟨cs, h1, h2, h3⟩ := hr; exact ⟨cs, h1, x8 h l cs h2, h3⟩
 | .tup l, v, hr => by simp only [kV, Rep] at hr |-; obtain ⟨cs, h1, h2⟩ := hr; exact ⟨cs, h1, x8 h l cs h2⟩
 | .fn f l, v, hr => by simp only [kV, Rep] at hr |-; obtain ⟨cs, h1, h2⟩ := hr; exact ⟨cs, h1, x8 h l cs h2⟩
 | .int _ _, _, hr => by simpa [kV, Rep] using hr
 | .bool _, _, hr => by simpa [kV, Rep] using hr
 | .str _, _, hr => by simpa [kV, Rep] using hr
 | .ls _ _, _, hr => by simpa [kV, Rep] using hr
 | .mp _ _, _, hr => by simpa [kV, Rep] using hr
 | .nil, _, hr => by simpa only [kV, Rep] using hr
 | .el _ _ _ _, _, hr => by simpa [kV, Rep] using hr
 | .glob _ _, _, hr => by simpa [kV, Rep] using hr
 | .ifc b, _, hr => by simpa only [kV, Rep] using hr
 | .any, _, hr => by simp [Rep]
theorem x8 {K : Kn} {pl plc : Pl} {ks : List Nat} {n : Nat} (h : ∀ j ver x, pl (z6 ks n j) ver = some x -> plc j ver = some x) : ∀ (l : List D) (vs : List Value), RepL K pl (qY ks n l) vs -> RepL K plc l vs
 | [], vs, hr => by simpa [qY, RepL] using hr
 | d :: l, vs, hr => by
   simp only [qY, RepL] at hr |-
   obtain ⟨v, r, h1, h2, h3⟩ := hr
   exact ⟨v, r, h1, jR6 h d v h2, x8 h l r h3⟩
end
mutual
theorem jA3 {K : Kn} {pl plc : Pl} {ks : List Nat} {n : Nat} (h : ∀ j ver x, plc j ver = some x -> pl (z6 ks n j) ver = some x) : ∀ (d : D) (v : Value), Rep K plc d v -> Rep K pl (kV ks n d) v
 | .box k off, v, hr => by simp only [kV, Rep] at hr |-; obtain ⟨b, h1, h2⟩ := hr; exact ⟨b, h _ _ _ h1, h2⟩
 | .yld k, v, hr => by simp only [kV, Rep] at hr |-; obtain ⟨b, h1, h2⟩ := hr; exact ⟨b, h _ _ _ h1, h2⟩
 | .osl k _ _ _ _, v, hr => by simp only [kV, Rep] at hr |-; obtain ⟨a, n, c, h1, h2⟩ := hr; exact ⟨a, n, c, h _ _ _ h1, h2⟩
 | .boxi k off, v, hr => by simp only [kV, Rep] at hr |-; obtain ⟨b, h1, h2⟩ := hr; exact ⟨b, h _ _ _ h1, h2⟩
 | .bsl k b s l, v, hr => by simp only [kV, Rep] at hr |-; obtain ⟨b, o, c, h1, h2⟩ := hr; exact ⟨b, o, c, h _ _ _ h1, h2⟩
 | .own k ver, v, hr => by simp only [kV, Rep] at hr |-; exact ⟨h _ _ _ hr.1, hr.2⟩
 | .ownm k ver, v, hr => by simp only [kV, Rep] at hr |-; exact ⟨h _ _ _ hr.1, hr.2⟩
 | .elo k ver sz i off, v, hr => by simp only [kV, Rep] at hr |-; obtain ⟨b, m, c, h1, h2⟩ := hr; exact ⟨b, m, c, h _ _ _ h1, h2⟩
 | .agg l, v, hr => by simp only [kV, Rep] at hr |-; obtain ⟨cs, h1, h2, h3⟩ := hr; exact ⟨cs, h1, xI h l cs h2, h3⟩
 | .tup l, v, hr => by simp only [kV, Rep] at hr |-; obtain ⟨cs, h1, h2⟩ := hr; exact ⟨cs, h1, xI h l cs h2⟩
 | .fn f l, v, hr => by simp only [kV, Rep] at hr |-; obtain ⟨cs, h1, h2⟩ := hr; exact ⟨cs, h1, xI h l cs h2⟩
 | .int _ _, _, hr => by simpa [kV, Rep] using hr
 | .bool _, _, hr => by simpa [kV, Rep] using hr
 | .str _, _, hr => by simpa [kV, Rep] using hr
 | .ls _ _, _, hr => by simpa [kV, Rep] using hr
 | .mp _ _, _, hr => by simpa [kV, Rep] using hr
 | .nil, _, hr => by simpa only [kV, Rep] using hr
 | .el _ _ _ _, _, hr => by simpa [kV, Rep] using hr
 | .glob _ _, _, hr => by simpa [kV, Rep] using hr
 | .ifc b, _, hr => by simpa only [kV, Rep] using hr
 | .any, _, hr => by simp [kV, Rep]
theorem xI {K : Kn} {pl plc : Pl} {ks : List Nat} {n : Nat} (h : ∀ j ver x, plc j ver = some x -> pl (z6 ks n j) ver = some x) : ∀ (l : List D) (vs : List Value), RepL K plc l vs -> RepL K pl (qY ks n l) vs
 | [], vs, hr => by simpa [qY, RepL] using hr
 | d :: l, vs, hr => by
   simp only [qY, RepL] at hr |-
   obtain ⟨v, r, h1, h2, h3⟩ := hr
   exact ⟨v, r, h1, jA3 h d v h2, xI h l r h3⟩
end
theorem jp5 {ks : List Nat} {n : Nat} : ∀ {l : List D}, (qY ks n l).length = l.length
 | [] => rfl
 | x :: l => by simp [qY, jp5 (l := l)]
theorem xn {pl plc : Pl} {ks : List Nat} {n j : Nat} (h : ∀ ver, plc j ver = pl (z6 ks n j) ver) (e : Ent) : jW plc j e = jW pl (z6 ks n j) (zp ks n e) := by
 cases e <;> simp [jW, zp, h]
theorem EntOk.ren {K : Kn} {pl plc : Pl} {w : World} {ks : List Nat} {n j : Nat} (hj : ∀ ver, plc j ver = pl (z6 ks n j) ver) (h : ∀ j ver x, pl (z6 ks n j) ver = some x -> plc j ver = some x) {e : Ent} (he : EntOk K pl w (z6 ks n j) (zp ks n e)) : EntOk K plc w j e := by
 cases e with
 | gone => trivial
 | fresh => intro ver; rw [hj]; exact he ver
 | obj o =>
   obtain ⟨b, h1, h3⟩ := he
   exact ⟨b, by rw [hj]; exact h1, h3⟩
 | cells l =>
   obtain ⟨b, T, cs, h1, h2, h3, h4, h5⟩ := he
   exact ⟨b, T, cs, by rw [hj]; exact h1, h2, h3, x8 h l cs h4, h5⟩
 | tcells T l =>
   obtain ⟨b, cs, h1, h2, h3, h4, h5⟩ := he
   exact ⟨b, cs, by rw [hj]; exact h1, h2, h3, x8 h l cs h4, h5⟩
 | arr e sz ver rows =>
   obtain ⟨v, vs, h1, h2, h3, h4, h5, h6⟩ := he
   exact ⟨v, vs, by rw [hj]; exact h1, h2, h3, h4, h5, fun ver' hv => by rw [hj]; exact h6.1 ver' hv, h6.2⟩
 | iter cur ks vs =>
   obtain ⟨r, h1, h3, h4⟩ := he
   exact ⟨r, by rw [hj]; exact h1, h3, h4⟩
 | mapx g ks vs =>
   obtain ⟨kvs, vvs, h1, h3⟩ := he
   exact ⟨kvs, vvs, by rw [hj]; exact h1, h3⟩
 | ito g seen cur ks vs =>
   obtain ⟨r, kvs, vvs, h1, h3⟩ := he
   exact ⟨r, kvs, vvs, by rw [hj]; exact h1, h3⟩
 | map ms vs =>
   obtain ⟨b, es, clock, kvs, vvs, h5, h7, h8, h9, h10, h11⟩ := he
   rw [jp5] at h11
   exact ⟨b, es, clock, kvs, vvs, by rw [hj]; exact h5, h7, h8, h9, x8 h vs vvs h10, h11⟩
theorem EntOk.ren' {K : Kn} {pl plc : Pl} {w : World} {ks : List Nat} {n j : Nat} (hj : ∀ ver, plc j ver = pl (z6 ks n j) ver) (h : ∀ j ver x, plc j ver = some x -> pl (z6 ks n j) ver = some x) {e : Ent} (he : EntOk K plc w j e) : EntOk K pl w (z6 ks n j) (zp ks n e) := by
 cases e with
 | gone => trivial
 | fresh => intro ver; rw [<- hj]; exact he ver
 | obj o =>
   obtain ⟨b, h1, h3⟩ := he
   exact ⟨b, by rw [<- hj]; exact h1, h3⟩
 | cells l =>
   obtain ⟨b, T, cs, h1, h2, h3, h4, h5⟩ := he
   exact ⟨b, T, cs, by rw [<- hj]; exact h1, h2, h3, xI h l cs h4, h5⟩
 | tcells T l =>
   obtain ⟨b, cs, h1, h2, h3, h4, h5⟩ := he
   exact ⟨b, cs, by rw [<- hj]; exact h1, h2, h3, xI h l cs h4, h5⟩
 | arr e sz ver rows =>
   obtain ⟨v, vs, h1, h2, h3, h4, h5, h6⟩ := he
   exact ⟨v, vs, by rw [<- hj]; exact h1, h2, h3, h4, h5, fun ver' hv => by rw [<- hj]; exact h6.1 ver' hv, h6.2⟩
 | iter cur ks vs =>
   obtain ⟨r, h1, h3, h4⟩ := he
   exact ⟨r, by rw [<- hj]; exact h1, h3, h4⟩
 | mapx g ks vs =>
   obtain ⟨kvs, vvs, h1, h3⟩ := he
   exact ⟨kvs, vvs, by rw [<- hj]; exact h1, h3⟩
 | ito g seen cur ks vs =>
   obtain ⟨r, kvs, vvs, h1, h3⟩ := he
   exact ⟨r, kvs, vvs, by rw [<- hj]; exact h1, h3⟩
 | map ms vs =>
   obtain ⟨b, es, clock, kvs, vvs, h5, h7, h8, h9, h10, h11⟩ := he
   exact ⟨b, es, clock, kvs, vvs, by rw [<- hj]; exact h5, h7, h8, h9, xI h vs vvs h10, by rw [jp5]; exact h11⟩
variable {P : Program} {gt : Nat -> Option (List D)} {f : Nat} {ds ds' : List D} {d : D} {bx es es' : List Ent}
theorem SpM.own (h : SpM P gt f ds' es d es') (ks : List Nat) (h1 : ds = qY ks (jD bx) ds') (h2 : Ko bx ks = some (kM ks (jD bx) es)) (hk : jc1 ks = true) :
  SpM P gt f ds bx (kV ks (jD bx) d) (kO bx ks (kM ks (jD bx) es')) := by
 rw [kK] at h1 h2 |-
 refine ⟨h.1, fun K pl w vs hmod hglob htab hrep => ?_⟩
 subst h1
 obtain ⟨hel, hget⟩ := jd1 (n := bx.length) h2
 rw [J1] at hel
 -- the numbers are those of entries
 have hlt : ∀ k ∈ ks, k < bx.length := fun k hkm => by
  obtain ⟨j, hj, hjk⟩ := jH2 (n := bx.length) hkm
  have hj' : j < es.length := by omega
  have := hget j _ (yT (List.getElem?_eq_getElem hj'))
  rw [hjk] at this
  exact (List.getElem?_eq_some_iff.1 this).1
 let plc : Pl := fun j ver => if j < ks.length then pl (z6 ks bx.length j) ver else none
 have hplc : ∀ j ver x, pl (z6 ks bx.length j) ver = some x -> plc j ver = some x := fun j ver x hx => by
  by_cases hj : j < ks.length
  ·simpa [plc, hj] using hx
  ·rw [jb6 (by omega), htab.free _ _ (by omega)] at hx; cases hx
 have hplj : ∀ j, j < ks.length -> ∀ ver, plc j ver = pl (z6 ks bx.length j) ver := fun j hj ver => by simp [plc, hj]
 have hesk : ∀ j e, es[j]? = some e -> j < ks.length /\ bx[z6 ks bx.length j]? = some (zp ks bx.length e) := fun j e he =>
  ⟨by rw [<- hel]; exact (List.getElem?_eq_some_iff.1 he).1, hget j _ (yT he)⟩
 have hinj : ∀ i j, z6 ks bx.length i = z6 ks bx.length j -> i = j := fun i j hij => by
  have h3 := Zc (n := bx.length) (j := i) hk hlt
  rw [hij, Zc hk hlt] at h3; cases h3; rfl
 have htabc : Tab K plc w es := by
  refine ⟨fun j e he => ?_, fun i j e f b hij hi hj hb hb' => ?_, fun j ver hj => by simp [plc]; omega⟩
  ·obtain ⟨h3, h4⟩ := hesk j e he
   exact (htab.ok _ _ h4).ren (hplj j h3) hplc
  ·obtain ⟨h3, h4⟩ := hesk i e hi
   obtain ⟨h5, h6⟩ := hesk j f hj
   rw [xn (hplj i h3)] at hb
   rw [xn (hplj j h5)] at hb'
   exact htab.sep _ _ _ _ b (fun e => hij (hinj i j e)) h4 h6 hb hb'
 have hownc : ∀ b, Own plc es b -> Own pl bx b := fun b ⟨j, e, he, hb⟩ => by
  obtain ⟨h3, h4⟩ := hesk j e he
  rw [xn (hplj j h3)] at hb
  exact ⟨_, _, h4, hb⟩
 refine (h.2 K plc w vs hmod hglob htabc (x8 hplc _ _ hrep)).mono ?_
 rintro e w' ⟨v, K', plc', rfl, hI, hr⟩
 have hle' : es.length <= es'.length := hI.len
 let pl' : Pl := fun k ver => match sg ks bx.length k with | some j => plc' j ver | none => pl k ver
 have hpl'j : ∀ j ver, plc' j ver = pl' (z6 ks bx.length j) ver := fun j ver => by simp [pl', Zc hk hlt]
 have hpl' : ∀ j ver x, plc' j ver = some x -> pl' (z6 ks bx.length j) ver = some x := fun j ver x hx => by rw [<- hpl'j]; exact hx
 have hpl'n : ∀ k, sg ks bx.length k = none -> ∀ ver, pl' k ver = pl k ver := fun k hk ver => by simp [pl', hk]
 have hPle : PLe pl pl' := fun k ver x hx => by
  cases hs : sg ks bx.length k with
  | none => rw [hpl'n k hs]; exact hx
  | some j =>
    have hkj := jp3 hs
    rw [<- hkj] at hx |-
    rw [<- hpl'j]
    by_cases hj : j < ks.length
    ·exact hI.keep j ver x (by show j < es.length; omega) (by show plc j ver = some x; rw [hplj j hj]; exact hx)
    ·rw [jb6 (by omega), htab.free _ _ (by omega)] at hx; cases hx
 have hlk : ks.length <= (kM ks bx.length es').length := by rw [J1]; omega
 -- an entry that was not handed on
 have hrest : ∀ k e, sg ks bx.length k = none -> bx[k]? = some e -> ∀ b, jW pl k e = some b -> b < w.heap.size /\ K b = none /\ ¬ Own plc es b := fun k e hs hk' b hb => by
  obtain ⟨h3, h4⟩ := htab.lt hk' hb
  refine ⟨h3, h4, fun ⟨j, e', he', hb'⟩ => ?_⟩
  obtain ⟨h5, h6⟩ := hesk j e' he'
  rw [xn (hplj j h5)] at hb'
  refine htab.sep k _ _ _ b (fun e => ?_) hk' h6 hb hb'
  rw [e, Zc hk hlt] at hs; cases hs
 have hKnone : ∀ b, b < w.heap.size -> K b = none -> ¬ Own plc es b -> K' b = none := fun b h3 h4 h5 => by
  cases hK : K' b with
  | none => rfl
  | some o =>
    rcases hI.new b o hK with h | h | h
    ·have h : K b = some o := h
     rw [h4] at h; cases h
    ·exact absurd h h5
    ·have : w.heap.size <= b := h
     omega
 have hcase : ∀ k e, (kO bx ks (kM ks bx.length es'))[k]? = some e -> (∃ j e0, k = z6 ks bx.length j /\ sg ks bx.length k = some j /\ es'[j]? = some e0 /\ e = zp ks bx.length e0) \/ (sg ks bx.length k = none /\ bx[k]? = some e) := fun k e hk' => by
  rw [jq3 k hk hlt hlk] at hk'
  cases hs : sg ks bx.length k with
  | none => rw [hs] at hk'; exact .inr ⟨rfl, hk'⟩
  | some j =>
    rw [hs] at hk'
    obtain ⟨e0, h3, h4⟩ := jA2 hk'
    exact .inl ⟨j, e0, (jp3 hs).symm, rfl, h3, h4⟩
 refine ⟨v, K', pl', rfl, ⟨⟨hI.chg.os, hI.chg.tape, hI.chg.output, hI.chg.size, fun k hk' hn => hI.chg.block k hk' fun ho => hn (hownc k ho)⟩, hI.mod, hI.le, fun b o hb => ?_, ⟨fun k e hk' => ?_, fun i j e f b hij hi hj hb hb' => ?_, fun k ver hk' => ?_⟩, fun k e b hk' hb => ?_, ?_, fun k ver x _ hx => hPle _ _ _ hx, hI.glob⟩, jA3 hpl' _ _ hr⟩
 ·rcases hI.new b o hb with h | h | h
  ·exact .inl h
  ·exact .inr (.inl (hownc b h))
  ·exact .inr (.inr h)
 ·rcases hcase k e hk' with ⟨j, e0, rfl, h3, h4, rfl⟩ | ⟨h3, h4⟩
  ·exact (hI.tab.ok j e0 h4).ren' (fun ver => hpl'j j ver) hpl'
  ·refine (htab.ok k e h4).move hI.le hPle (fun b hb => ?_) (hpl'n k h3)
   obtain ⟨h5, h6, h7⟩ := hrest k e h3 h4 b hb
   exact ⟨hI.chg.block b h5 h7, hKnone b h5 h6 h7⟩
 ·have hnew : ∀ j e0 b, es'[j]? = some e0 -> jW pl' (z6 ks bx.length j) (zp ks bx.length e0) = some b -> jW plc' j e0 = some b := fun j e0 b _ h => by rw [xn (fun ver => hpl'j j ver)]; exact h
  have hold : ∀ k e b, sg ks bx.length k = none -> jW pl' k e = some b -> jW pl k e = some b := fun k e b hs h => by rw [<- h]; cases e <;> simp [jW, hpl'n k hs]
  have hmix : ∀ j e0 k e b, es'[j]? = some e0 -> jW plc' j e0 = some b -> sg ks bx.length k = none -> bx[k]? = some e -> jW pl k e = some b -> False := fun j e0 k e b h3 h4 h5 h6 h7 => by
   obtain ⟨h8, h9, h10⟩ := hrest k e h5 h6 b h7
   rcases hI.own j e0 b h3 h4 with h | h
   ·exact h10 h
   ·have : w.heap.size <= b := h
    omega
  rcases hcase i e hi with ⟨i', e0, rfl, h3, h4, rfl⟩ | ⟨h3, h4⟩ <;> rcases hcase j f hj with ⟨j', f0, rfl, h5, h6, rfl⟩ | ⟨h5, h6⟩
  ·exact hI.tab.sep i' j' e0 f0 b (fun e => hij (by rw [e])) h4 h6 (hnew _ _ _ h4 hb) (hnew _ _ _ h6 hb')
  ·exact hmix i' e0 j f b h4 (hnew _ _ _ h4 hb) h5 h6 (hold _ _ _ h5 hb')
  ·exact hmix j' f0 i e b h6 (hnew _ _ _ h6 hb') h3 h4 (hold _ _ _ h3 hb)
  ·exact htab.sep i j e f b hij h4 h6 (hold _ _ _ h3 hb) (hold _ _ _ h5 hb')
 ·rw [Xg hlk, J1] at hk'
  have hkn : bx.length <= k := by omega
  cases hs : sg ks bx.length k with
  | none =>
    exfalso
    have := Zc (n := bx.length) (j := ks.length + (k - bx.length)) hk hlt
    rw [jb6 (by omega)] at this
    have e : bx.length + (ks.length + (k - bx.length) - ks.length) = k := by omega
    rw [e, hs] at this; cases this
  | some j =>
    have hkj := jp3 hs
    have : es'.length <= j := by
     by_cases hj : j < ks.length
     ·have := hlt _ (ku9 (n := bx.length) hj); omega
     ·rw [jb6 (by omega)] at hkj; omega
    rw [<- hkj, <- hpl'j]
    exact hI.tab.free j ver this
 ·rcases hcase k e hk' with ⟨j, e0, rfl, h3, h4, rfl⟩ | ⟨h3, h4⟩
  ·rw [<- xn (fun ver => hpl'j j ver)] at hb
   rcases hI.own j e0 b h4 hb with h | h
   ·exact .inl (hownc b h)
   ·exact .inr h
  ·left
   refine ⟨k, e, h4, ?_⟩
   rw [<- hb]; cases e <;> simp [jW, hpl'n k h3]
 ·show bx.length <= _
  rw [Xg hlk]; omega
end
section
variable {Sp : CallP} {gt : Nat -> Option (List D)} {n0 : Nat}
theorem kE {α : Type} {c : C} {K : Ex -> St -> Prop} (S : α -> St) (μ : α -> Nat) (h : ∀ x, ∀ I : St -> Prop, (∀ y, μ y < μ x -> I (S y)) -> run Sp gt n0 c (Q0 (Yi n0 I) K) (S x)) (x : α) {st : St} (h0 : st = S x) : run Sp gt n0 (.loop c) K st := by
 subst h0
 intro I hI
 refine .inl ?_
 have key : ∀ n x, μ x = n -> I (S x) := by
  intro n
  induction n using Nat.strongRecOn with
  | _ n ih =>
    intro x hx
    exact hI _ (h x I fun y hy => ih (μ y) (hx ▸ hy) y rfl)
 exact key _ x rfl
theorem jC2 {α : Type} {c : C} {K : Ex -> St -> Prop} (S : α -> St) (μ : α -> Nat) (h : ∀ x, ∀ I : St -> Prop, (∀ y, μ y < μ x -> I (S y)) -> run Sp gt n0 c (Q0 (Yi n0 I) K) (S x)) (x : α) {st : St} (h1 : kl5 st.env (S x).env) (h2 : Vf st.bx (S x).bx)
  (h3 : jx2 (jD (S x).bx) (S x).env = true) (h4 : k8 (jD (S x).bx) (S x).bx = true) (h0 : Nat.ble n0 (jD (S x).bx) = true := by rfl) : run Sp gt n0 (.loop c) K st := by
 intro I hI
 refine .inr ⟨S x, ⟨h0, h1, h2, h3, h4⟩, ?_⟩
 have key : ∀ n x, μ x = n -> I (S x) := by
  intro n
  induction n using Nat.strongRecOn with
  | _ n ih =>
    intro x hx
    exact hI _ (h x I fun y hy => ih (μ y) (hx ▸ hy) y rfl)
 exact key _ x rfl
theorem zG : ∀ {l : List Prop} {p q : Prop}, (p -> q) -> jx l p -> jx l q
 | [], _, _, h, hp => h hp
 | _ :: _, _, _, h, hp => ⟨hp.1, zG h hp.2⟩
theorem kd0 {R R' : St -> Prop} (h : ∀ s, R s -> R' s) {hs : List Prop} {dst : Option Nat} {g : G} {st : St} : ∀ {r : Res}, jD3 Sp R hs dst g st r -> jD3 Sp R' hs dst g st r
 | .bad, hr => hr
 | .ok _ _ _, hr => zG (h _) hr
 | .call _ _ _ _, hr => zG (fun ⟨d, bx', a, b, c⟩ => ⟨d, bx', a, b, h _ c⟩) hr
 | .row _ _ _ _ _, hr => zG (fun ⟨d, d', a, b, c⟩ => ⟨d, d', a, b, h _ c⟩) hr
 | .arr _ _ _ _, hr => zG (fun ⟨d, a, c⟩ => ⟨d, a, h _ c⟩) hr
 | .ask _ _, hr => zG (fun ⟨d, a, c⟩ => ⟨d, a, h _ c⟩) hr
 | .put _ _ _ _, hr => zG (fun ⟨d, a, c⟩ => ⟨d, a, h _ c⟩) hr
 | .prm _ _ _ _, hr => zG (fun ⟨d, bx', a, b, e, c⟩ => ⟨d, bx', a, b, e, h _ c⟩) hr
 | .callK _ _ _ _, hr => zG (fun ⟨d, bx', a, b, c⟩ => ⟨d, bx', a, b, h _ c⟩) hr
 | .callC _ _ _, hr => zG (fun ⟨d, a, c⟩ => ⟨d, a, h _ c⟩) hr
 | .callN _ _ _ _, hr => zG (fun ⟨d, bx', a, b, c⟩ => ⟨d, bx', a, b, h _ c⟩) hr
 | .callR _ _ _ _, hr => zG (fun ⟨d, a, c⟩ => ⟨d, a, h _ c⟩) hr
 | .all _ _ _, hr => zG (fun ⟨T, a, c⟩ => ⟨T, a, fun d bx' ht => h _ (c d bx' ht)⟩) hr
theorem jg4 {R R' : St -> Prop} (h : ∀ s, R s -> R' s) : ∀ {os : List O} {st : St}, qj Sp gt os R st -> qj Sp gt os R' st
 | [], _, hr => h _ hr
 | o :: os, st, hr => by
   simp only [qj] at hr |-
   cases hg : jj o.dst (ji st.env o.g) with
   | none => rw [hg] at hr; exact hr
   | some g =>
     rw [hg] at hr
     simp only [kd1] at hr |-
     cases hf : jA o.fp o.m g st.env st.bx with
     | false => rw [hf] at hr; exact hr
     | true => rw [hf] at hr; exact kd0 (R := qj Sp gt os R) (R' := qj Sp gt os R') (fun s hs => jg4 h hs) hr
theorem yR : ∀ {c : C} {K K' : Ex -> St -> Prop} {st : St}, (∀ e s, K e s -> K' e s) -> run Sp gt n0 c K st -> run Sp gt n0 c K' st
 | .skip, _, _, _, h, hr => h _ _ hr
 | .ret, _, _, _, h, hr => h _ _ hr
 | .exit _, _, _, _, h, hr => h _ _ hr
 | .reg _ ops ks, K, K', st, h, hr => by
   simp only [run] at hr |-
   cases hp : jo st.env with
   | false => rw [hp] at hr; exact hr
   | true => rw [hp] at hr; exact jg4 (fun s hs => h _ _ hs) hr
 | .seq a b, K, K', st, h, hr => by
   simp only [run] at hr |-
   refine yR (fun e s hs => ?_) hr
   cases e with
   | nrm => exact yR h hs
   | exit id => exact h _ _ hs
   | ret => exact h _ _ hs
 | .ite x a b, K, K', st, h, hr => by
   simp only [run] at hr |-
   cases he : jL st.env [] x with
   | none => rw [he] at hr; exact hr
   | some d =>
     rw [he] at hr
     cases d <;> try (exact hr)
     exact ⟨fun t => yR h (hr.1 t), fun t => yR h (hr.2 t)⟩
 | .blk id c, K, K', st, h, hr => by
   simp only [run] at hr |-
   refine yR (fun e s hs => ?_) hr
   cases e with
   | nrm => exact h _ _ hs
   | ret => exact h _ _ hs
   | exit j =>
     simp only [kC] at hs |-
     cases hj : j == id with
     | true => rw [hj] at hs; exact h _ _ hs
     | false => rw [hj] at hs; exact h _ _ hs
 | .loop c, K, K', st, h, hr => by
   simp only [run] at hr |-
   intro I hI
   refine hr I fun s hs => hI s (yR (fun e s hs => ?_) hs)
   cases e with
   | nrm => exact hs
   | exit id => exact h _ _ hs
   | ret => exact h _ _ hs
 | .rangef x ps a b, K, K', st, h, hr => by
   simp only [run] at hr |-
   cases hl : (zw a && zw b) with
   | false => rw [hl] at hr; exact hr
   | true =>
     rw [hl] at hr
     simp only [kJ8] at hr |-
     cases he : jL st.env [] x with
     | none => rw [he] at hr; exact hr
     | some d =>
       rw [he] at hr
       cases d <;> try (exact hr)
       obtain ⟨xs, Kp, S, m, R⟩ := hr
       exact ⟨xs, Kp, S, m, R.it, R.pl, R.len, R.few, R.low, R.start, R.round, fun hm => by
        obtain ⟨e, bs, q1, q2, q3, q4, q5⟩ := R.stop hm
        exact ⟨e, bs, q1, q2, q3, q4, h _ _ q5⟩, fun hm => h _ _ (R.done hm)⟩
def C.hd : C -> C
 | .seq a _ => a
 | c => c
def C.tl : C -> C
 | .seq _ b => b
 | c => c
theorem j0 (R : St -> Prop) (K : Ex -> St -> Prop) (st : St) : Q0 R K .nrm st = R st := rfl
theorem j3 (R : St -> Prop) (K : Ex -> St -> Prop) (j : Nat) (st : St) : Q0 R K (.exit j) st = K (.exit j) st := rfl
theorem kR (R : St -> Prop) (K : Ex -> St -> Prop) (st : St) : Q0 R K .ret st = K .ret st := rfl
theorem kW {I : St -> Prop} {s s' : St} (h : I s') (h1 : kl5 s.env s'.env) (h2 : Vf s.bx s'.bx) (h3 : jx2 (jD s'.bx) s'.env = true) (h4 : k8 (jD s'.bx) s'.bx = true) (h0 : Nat.ble n0 (jD s'.bx) = true := by rfl) : Yi n0 I s := .inr ⟨s', ⟨h0, h1, h2, h3, h4⟩, h⟩
end
theorem Sp_of {P : Program} {gt : Nat -> Option (List D)} (hm : P.follows .mixedOrders = true) {f : FuncId} {fn : Func} (c : C) (rs : List R) (hf : P.funcs[f]? = some fn) (hnm : (fn.name == "runtime.NumGoroutine") = false) (hc : (fn.body.bind fun code => ke P fn.ntmps code c) = some c.bare) (hr : yv P fn.results.toList = some rs)
  {ds : List D} {d : D} (hn : Nat.ble ds.length fn.ntmps = true) (h : run (jE6 P gt) gt 0 c (kw rs (· = d)) ⟨env0 0 ds, []⟩) : Sp P gt f ds d := by
 refine jv1 hm hf hnm hc hr (Nat.le_of_ble_eq_true hn) (Ft := fun d1 bx1 => kx (· = d) (lend bx1 d1)) ?_ fun d1 bx1 hft => ?_
 ·refine yR (fun e s hs => ?_) h
  have key : kx (· = d) (jZ s.bx (j7 s rs)) -> qH (fun d1 bx1 => kx (· = d) (lend bx1 d1)) s.bx (j7 s rs) := by
   cases j7 s rs with
   | none => exact id
   | some l => exact id
  cases e with
  | exit id => exact hs
  | nrm => exact key hs
  | ret => exact key hs
 ·obtain ⟨q, b, d', h1, h2, rfl⟩ := kn2 hft
  exact Rt.lend h1 h2
theorem kV0 {P : Program} {gt : Nat -> Option (List D)} (hm : P.follows .mixedOrders = true) {f : FuncId} {fn : Func} (c : C) (rs : List R) (hf : P.funcs[f]? = some fn) (hnm : (fn.name == "runtime.NumGoroutine") = false) (hc : (fn.body.bind fun code => ke P fn.ntmps code c) = some c.bare) (hr : yv P fn.results.toList = some rs)
  {ds : List D} {d : D} {bx bx' : List Ent} (hn : Nat.ble ds.length fn.ntmps = true) (h : run (jE6 P gt) gt (jD bx) c (qX rs (fun d1 bx1 => Rt (jD bx) bx1 d1 d bx')) ⟨env0 0 ds, bx⟩) : SpM P gt f ds bx d bx' := by
 rw [kK] at h
 exact jv1 hm hf hnm hc hr (Nat.le_of_ble_eq_true hn) h fun d1 bx1 hft => hft
/-! ### At a call -/
section
variable {P : Program} {gt : Nat -> Option (List D)} {hs : List Prop} {f : Nat} {ds : List D} {dst : Option Nat} {g : G} {os : List O} {st : St} {K : St -> Prop}
theorem Kk {hs : List Prop} {p q : Prop} (h : p -> q) (hp : km hs p) : km hs q := by
 induction hs with
 | nil => exact h hp
 | cons x hs ih => exact fun hx => ih (hp hx)
theorem jv {eff : Bool} {d : D} (h : km hs (Sp P gt f ds d)) (hk : qj (jE6 P gt) gt os K ⟨jw dst g d st.env, st.bx⟩) (hc : jV ds = true := by rfl) : jf4 (jE6 P gt) gt hs eff f ds dst g os st K :=
 ⟨d, st.bx, Kk (fun h => Sp.lift h hc) h, fun _ => rfl, hk⟩
theorem xS {d : D} (h : km hs (Sp P gt f ds d)) (hk : qj (jE6 P gt) gt os K ⟨jw dst g d st.env, st.bx⟩) (hc : jV ds = true := by rfl) : kk7 (jE6 P gt) gt hs f ds dst g os st K :=
 ⟨d, Kk (fun h _ => Sp.lift h hc) h, hk⟩
theorem kq4 {eff : Bool} {d : D} {ds' : List D} {q : List Prop} {o : Bool} (h : km hs (Sp P gt f ds' d)) (hl : kA st.bx ds = some (q, o, ds')) (hq : jx q True) (hp : VU d = true) (hk : qj (jE6 P gt) gt os K ⟨jw dst g d st.env, st.bx⟩) : jf4 (jE6 P gt) gt hs eff f ds dst g os st K :=
 ⟨d, st.bx, Kk (fun h => Sp.lent h hl (qE hq).1 hp) h, fun _ => rfl, hk⟩
theorem KD {d : D} {ds' : List D} {q : List Prop} {bx' bx'' : List Ent} (hf : jx6 st.bx ds = some (q, ds', bx')) (hq : jx q True) (h : km hs (SpM P gt f ds' bx' d bx'')) (hk : qj (jE6 P gt) gt os K ⟨jw dst g d st.env, bx''⟩) : jf4 (jE6 P gt) gt hs true f ds dst g os st K :=
 ⟨d, bx'', Kk (fun h => SpM.frz h hf (qE hq).1) h, nofun, hk⟩
theorem kY (ks : List Nat) {ds' : List D} {es es' : List Ent} {d : D} (h : km hs (SpM P gt f ds' es d es')) (h1 : ds = qY ks (jD st.bx) ds') (h2 : Ko st.bx ks = some (kM ks (jD st.bx) es))
  (hk : qj (jE6 P gt) gt os K ⟨jw dst g (kV ks (jD st.bx) d) st.env, kO st.bx ks (kM ks (jD st.bx) es')⟩) (hks : jc1 ks = true := by rfl) : jf4 (jE6 P gt) gt hs true f ds dst g os st K :=
 ⟨_, _, Kk (fun h => SpM.own h ks h1 h2 hks) h, nofun, hk⟩
theorem SpM.fresh {f : Nat} {ds : List D} {d : D} {es : List Ent} (h : SpM P gt f ds [] d es) : SpM P gt f ds (qp es.length) d es := ⟨h.1, fun K pl w vs hmod hglob htab hrep => by
 have hpl : pl = fun _ _ => none := by
  funext k ver
  rcases Nat.lt_or_ge k es.length with h1 | h1
  ·have := htab.ok k .fresh (by simp [qp, h1])
   exact this ver
  ·exact htab.free k ver (by simpa [qp] using h1)
 subst hpl
 have htab0 : Tab K (fun _ _ => none) w [] := ⟨fun k e hk => by simp at hk, fun i j e f b _ hi => by simp at hi, fun _ _ _ => rfl⟩
 refine (h.2 K _ w vs hmod hglob htab0 hrep).mono ?_
 rintro e w' ⟨v, K', pl', rfl, hI, hr⟩
 have hown : ∀ b, ¬ Own (fun _ _ => none) (qp es.length) b := fun b ⟨k, e, hk, hb⟩ => by
  cases e <;> simp [jW] at hb
 have hown0 : ∀ b, ¬ Own (fun _ _ => none) [] b := fun b ⟨k, e, hk, hb⟩ => by simp at hk
 refine ⟨v, K', pl', rfl, ⟨⟨hI.chg.os, hI.chg.tape, hI.chg.output, hI.chg.size, fun k hk hn => hI.chg.block k hk (hown0 k)⟩, hI.mod, hI.le, fun b o hb => ?_, hI.tab, fun k e b hk hb => ?_, by simp [qp], fun k ver x hk hx => by simp at hx, hI.glob⟩, hr⟩
 ·rcases hI.new b o hb with h1 | h1 | h1
  ·exact .inl h1
  ·exact absurd h1 (hown0 b)
  ·exact .inr (.inr h1)
 ·rcases hI.own k e b hk hb with h1 | h1
  ·exact absurd h1 (hown0 b)
  ·exact .inr h1⟩
theorem jT4 {k : Nat} : ∀ {n s : Nat}, YI (KY s n) k = true -> s <= k
 | 0, _, h => by simp [KY, YI] at h
 | n + 1, s, h => by
   rw [KY, yk, List.mem_cons] at h
   rcases h with h | h
   ·omega
   ·have := jT4 (yk.2 h); omega
theorem jB7 : ∀ {n s : Nat}, jc1 (KY s n) = true
 | 0, _ => rfl
 | n + 1, s => by
   rw [KY, jc1, qw, ZU]
   refine ⟨?_, jB7⟩
   cases h : YI (KY (s + 1) n) s with
   | false => rfl
   | true => have := jT4 h; omega
theorem jt3 {t : List Ent} : ∀ {n : Nat} {bx : List Ent}, Ko (bx ++ (qp n ++ t)) (KY bx.length n) = some (qp n)
 | 0, bx => rfl
 | n + 1, bx => by
   have ih := jt3 (t := t) (n := n) (bx := bx ++ [.fresh])
   have e1 : bx ++ (qp (n + 1) ++ t) = (bx ++ [.fresh]) ++ (qp n ++ t) := by simp [qp, List.replicate_succ]
   rw [KY, Ko, e1]
   rw [List.length_append] at ih
   have e2 : jI (bx ++ [Ent.fresh] ++ (qp n ++ t)) bx.length = some .fresh := by rw [kG]; simp
   rw [e2]
   simp only [List.length_cons, List.length_nil, Nat.zero_add] at ih
   rw [ih]
   rfl
theorem jh2 {t : List Ent} : ∀ {n : Nat} {bx es : List Ent}, es.length = n -> kO (bx ++ (qp n ++ t)) (KY bx.length n) es = (bx ++ es) ++ t
 | 0, bx, es, h => by
   have := List.eq_nil_of_length_eq_zero h
   subst this
   simp [kO, KY, qp]
 | n + 1, bx, [], h => by simp at h
 | n + 1, bx, e :: es, h => by
   have ih := jh2 (t := t) (n := n) (bx := bx ++ [e]) (es := es) (by simpa using h)
   rw [KY, kO]
   have e1 : jQ (bx ++ (qp (n + 1) ++ t)) bx.length e = (bx ++ [e]) ++ (qp n ++ t) := by
    rw [qF]; simp [qp, List.replicate_succ]
   rw [e1]
   rw [List.length_append] at ih
   simp only [List.length_cons, List.length_nil, Nat.zero_add] at ih
   rw [ih]; simp
theorem jg5 {ks : List Nat} {m : Nat} : ∀ {n : Nat}, kM ks m (qp n) = qp n
 | 0 => rfl
 | n + 1 => by
   have := jg5 (ks := ks) (m := m) (n := n)
   unfold qp at this |-
   rw [List.replicate_succ, kM, this]; rfl
theorem Xd {ks : List Nat} {m : Nat} : ∀ {es : List Ent}, (kM ks m es).length = es.length
 | [] => rfl
 | e :: es => by rw [kM, List.length_cons, Xd, List.length_cons]
end
end Go.AM
