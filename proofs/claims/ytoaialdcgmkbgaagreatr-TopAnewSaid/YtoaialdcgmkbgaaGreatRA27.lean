import Derived.Test.YtoaialdcgmkbgaaGreatRA2
import Derived.OrdersIn
import Derived.RangeFuncCalls
import Derived.RangeFuncWrites
import Derived.TacticsIn
import Derived.Scope

set_option linter.all false
namespace Go.AM
open Go Go.RowKit
def wr (ro : Option Nat) : Fence := { Fence.wide with round := ro }
theorem JP (ro : Option Nat) (n : Nat) : ((wr ro).depth.isSome = true -> 1 <= n) := fun e => by simp [wr, Fence.wide] at e
theorem jE7 (ro : Option Nat) (n : Nat) : (wr ro).room n := fun _ h => by simp [wr, Fence.wide] at h
theorem XS {ro : Option Nat} {n : Nat} {P : Program} {f : FuncId} {args : Array Value} {w : World} {R : Ending -> World -> Prop} (h : Calls P f args w R) : CallsIn (wr ro) n P f args w R :=
 (callsIn_wide (n := n)).2 h
theorem ji0 {ro : Option Nat} {n : Nat} {P : Program} {f : FuncId} {args : Array Value} {w : World} {R : Ending -> World -> Prop} (h : CallsIn (wr ro) n P f args w R) : Calls P f args w R :=
 (callsIn_wide (n := n)).1 ⟨h.1, fun cs _ => h.2 cs (jE7 _ _)⟩
theorem kn1 {ro ro' : Option Nat} {n n' : Nat} {P : Program} {row : String} {args : Array Value} {w : World} {R : Value -> World -> Prop} (h : RowsIn (wr ro) n P row args w R) : RowsIn (wr ro') n' P row args w R :=
 fun c cs _ => h c cs (jE7 _ _)
theorem jp2 {ro ro' : Option Nat} {n n' : Nat} {P : Program} {l : Nat} {f : FuncId} {tmps : Array Value} {assign body : Code} {w : World} {R : Ending -> World -> Prop} (h : RoundIn (wr ro) n P l f tmps assign body w R) : RoundIn (wr ro') n' P l f tmps assign body w R :=
 ⟨trivial, fun c cs _ => h.2 c cs (jE7 _ _)⟩
theorem kE8 {ro ro' : Option Nat} {n n' : Nat} {P : Program} {o : Oper} {a : Act} {next : Act -> World -> Prop} {Q : Exit -> Act -> World -> Prop} : ∀ {r : Result Next}, o.uponIn (wr ro) n P a next Q r -> o.uponIn (wr ro') n' P a next Q r
 | .ok (.value v) w', h => h
 | .ok .skip w', h => h
 | .ok (.defer d) w', h => h
 | .ok (.enter f args) w', h => ⟨JP _ _, XS (ji0 h.2)⟩
 | .ok (.row row args) w', h => ⟨JP _ _, kn1 h.2⟩
 | .ok (.round ..) w', h => ⟨JP _ _, jp2 h.2⟩
 | .halt (.panic v) w', h => h
def kD5 (P : Program) (o : Oper) (a : Act) (w : World) (next : Act -> World -> Prop) (Q : Exit -> Act -> World -> Prop) : Prop := o.uponIn (wr none) 0 P a next Q ((execOp a.eval o).run P w)
section
variable {P : Program} {o : Oper} {a : Act} {w w' : World} {next : Act -> World -> Prop} {Q : Exit -> Act -> World -> Prop}
theorem xc {v : Value} (h : (execOp a.eval o).run P w = .ok (.value v) w') (hn : next (a.put o.dst v) w') : kD5 P o a w next Q := by
 unfold kD5; rw [h]; exact hn
theorem XV (h : (execOp a.eval o).run P w = .ok .skip w') (hn : next (a.put o.dst undef) w') : kD5 P o a w next Q := by
 unfold kD5; rw [h]; exact hn
theorem JQ {f : FuncId} {args : Array Value} (h : (execOp a.eval o).run P w = .ok (.enter f args) w') (hn : Calls P f args w' fun
   | .returned v, w'' => next (a.put o.dst v) w''
   | .panicked chain, w'' => Q (.panic chain) a w''
   | .outgrown, _ => LetsOut Q) : kD5 P o a w next Q := by
 unfold kD5; rw [h]; exact ⟨JP _ _, XS hn⟩
theorem jy6 {l : Nat} {f : FuncId} {tmps : Array Value} {assign body : Code} (h : (execOp a.eval o).run P w = .ok (.round l f tmps assign body) w') (hn : RoundIn (wr none) 0 P l f tmps assign body w' fun
   | .returned v, w'' => next (a.put o.dst v) w''
   | .panicked chain, w'' => Q (.panic chain) a w''
   | .outgrown, _ => LetsOut Q) : kD5 P o a w next Q := by
 unfold kD5; rw [h]; exact ⟨JP _ _, jp2 hn⟩
end
theorem kO0 {P : Program} {o : Oper} {a : Act} {w : World} {next : Act -> World -> Prop} {Q : Exit -> Act -> World -> Prop} (ro : Option Nat) (n : Nat) (ho : ∀ c, o.op ≠ .defer c) (h : kD5 P o a w next Q) : o.wpIn (wr ro) n P a w next Q := by
 refine ⟨fun _ _ => trivial, ?_⟩
 rw [show (wr ro).round = ro from rfl, Oper.semAt_eq ro a.eval o ho]
 exact kE8 h
def vM (P : Program) (ops : Array Oper) (Q : Exit -> Act -> World -> Prop) (i : Nat) (K : Act -> World -> Prop) (a : Act) (w : World) : Prop :=
 match ops[i]? with
 | none => K a w
 | some o => if Region.wanted o (yielded ops a.tmps) then kD5 P o a w K Q else K (a.put o.dst undef) w
theorem jm7 {P : Program} {ops : Array Oper} {Q : Exit -> Act -> World -> Prop} {i : Nat} {K : Act -> World -> Prop} {a : Act} {w : World} (ro : Option Nat) (n : Nat) (ho : ∀ o, ops[i]? = some o -> ∀ c, o.op ≠ .defer c) (h : vM P ops Q i K a w) : wpOpIn (wr ro) n P ops Q i K a w := by
 unfold vM at h
 unfold wpOpIn
 split at h
 ·rename_i e; simp only [e]; exact h
 ·rename_i o e
  simp only [e]
  split at h
  ·rename_i hw; rw [if_pos hw]; exact kO0 ro n (ho o e) h
  ·rename_i hw; rw [if_neg hw]; exact ⟨fun _ _ => trivial, h⟩
def Rnd (F : Fence) (n : Nat) (P : Program) (c : Code) (Q : Exit -> Act -> World -> Prop) (a : Act) (w : World) : Prop :=
 ∀ (b : Frame) (k : List Item) (cs : List Frame), b.roundOf = F.round -> F.fn b.fn -> F.room (cs.length + 1 + n) -> ∃ e a' w', Q e a' w' /\ ArrivesIn (Machine.fenced P F) P (lone (b.atR a (.code c :: .inLoop c :: k)) cs w) b k cs e a' w'
theorem Rnd.of_wp {F : Fence} {n : Nat} {P : Program} {c : Code} {Q : Exit -> Act -> World -> Prop} {a : Act} {w : World} (h : c.wpIn F n P (Exit.then (Rnd F n P c Q) Q) a w) : Rnd F n P c Q a w := by
 intro b k cs hro hb hr
 obtain ⟨e, a₁, w₁, hq, harr⟩ := h b (.inLoop c :: k) cs hro hb hr
 cases e with
 | normal =>
   obtain ⟨e₂, a₂, w₂, hq₂, harr₂⟩ := hq b k cs hro hb hr
   exact ⟨e₂, a₂, w₂, hq₂, .of_steps (StepsIn.trans harr (.one (fenced_calm hb hr rfl) stepR_inLoop)) harr₂⟩
 | exit id => exact ⟨_, a₁, w₁, hq, .pass (x := .inLoop c) rfl (fun _ _ => .inl (by simp)) harr⟩
 | goto l => exact ⟨_, a₁, w₁, hq, .pass (x := .inLoop c) rfl (fun _ _ => .inl (by simp)) harr⟩
 | ret => exact ⟨_, a₁, w₁, hq, .pass (x := .inLoop c) rfl (fun _ _ => .inl (by simp)) harr⟩
 | panic ch => exact ⟨_, a₁, w₁, hq, .pass (x := .inLoop c) rfl (fun _ _ => .inl (by simp)) harr⟩
 | outgrown => exact ⟨_, a₁, w₁, hq, .pass (x := .inLoop c) rfl (fun _ _ => .inl (by simp)) harr⟩
theorem Rnd.loop {F : Fence} {n : Nat} {P : Program} {c : Code} {Q : Exit -> Act -> World -> Prop} {a : Act} {w : World} (h : Rnd F n P c Q a w) : (Code.loop c).wpIn F n P Q a w := by
 intro b k cs hro hb hr
 obtain ⟨e, a', w', hq, harr⟩ := h b k cs hro hb hr
 exact ⟨e, a', w', hq, .of_steps (.one (fenced_calm hb hr rfl) stepR_loop) harr⟩
theorem xd {P : Program} {b : Frame} {a : Act} {k : List Item} {cs : List Frame} {w : World} {c : Code} : step P (lone (b.atR a (.code (.scope c) :: k)) cs w) = .next (lone (b.atR a (.code c :: .inScope c :: k)) cs w) :=
 step_lone_go (by simp [stepG, stepG.exec, Frame.atR])
theorem jv5 {P : Program} {b : Frame} {a : Act} {k : List Item} {cs : List Frame} {w : World} {c : Code} : step P (lone (b.atR a (.inScope c :: k)) cs w) = .next (lone (b.atR a k) cs w) :=
 step_lone_go (by simp [stepG, stepG.exec, Frame.atR])
theorem jY0 {F : Fence} {n : Nat} {P : Program} {Q : Exit -> Act -> World -> Prop} {a : Act} {w : World} {c : Code} (h : c.wpIn F n P (Exit.noGoto Q) a w) : (Code.scope c).wpIn F n P Q a w := by
 intro b k cs hro hb hr
 have h0 : (lone (b.atR a (.code (.scope c) :: k)) cs w).fenced P F := fenced_calm hb hr rfl
 obtain ⟨e, a₁, w₁, hq, harr⟩ := h b (.inScope c :: k) cs hro hb hr
 cases e with
 | normal => exact ⟨.normal, a₁, w₁, hq, .head h0 xd (StepsIn.trans harr (.one (fenced_calm hb hr rfl) jv5))⟩
 | exit id =>
   have hx : exitTo id (.inScope c :: k) = exitTo id k := by simp [exitTo]
   exact ⟨.exit id, a₁, w₁, hq, fun k' hk => .head h0 xd (harr.1 k' (by rw [hx]; exact hk)),
    fun hr' hk => let ⟨k₁, h1, h2⟩ := harr.2 hr' (by rw [hx]; exact hk); ⟨k₁, h1, .head h0 xd h2⟩⟩
 | goto l => exact hq.elim
 | ret => exact ⟨_, a₁, w₁, hq, .of_steps (.one h0 xd) harr⟩
 | panic ch => exact ⟨_, a₁, w₁, hq, .of_steps (.one h0 xd) harr⟩
 | outgrown => exact ⟨_, a₁, w₁, hq, .of_steps (.one h0 xd) harr⟩
end Go.AM
