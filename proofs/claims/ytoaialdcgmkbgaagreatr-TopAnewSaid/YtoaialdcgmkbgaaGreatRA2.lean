import Derived.WalkKit

set_option linter.all false
namespace Go.AM
inductive D where
 | int (k : IntKind) (n : Int)
 | bool (b : Bool)
 | str (s : List UInt8)
 | agg (l : List D)
 | tup (l : List D)
 | ls (sz : Nat) (l : List D)
 | mp (ks vs : List D)
 | fn (f : Nat) (caps : List D)
 | nil
 | box (k off : Nat)
 | boxi (k off : Nat)
 | bsl (k base sz len : Nat)
 | own (k ver : Nat)
 | ownm (k ver : Nat)
 | el (sz : Nat) (l : List D) (i off : Nat)
 | elo (k ver sz i off : Nat)
 | glob (g off : Nat)
 | ifc (nil : Bool)
 | yld (k : Nat)
 | osl (k ver sz off len : Nat)
 | any
 deriving Inhabited
inductive CK where
 | i (k : IntKind)
 | b
 | s
inductive X where
 | t (s : Nat)
 | c (d : D)
inductive Pr where
 | lkp (t : TypeId) (ok : Bool)
 | upd (t : TypeId)
 | mkm (t : TypeId)
 | lenm (t : TypeId)
 | delm (t u : TypeId)
 | rng (t : TypeId)
 | nxt (b : Bool)
 | ent
 | capS (t : TypeId)
 | clr (t : TypeId)
 | eqn (neg : Bool) (t : TypeId)
 | sli (t : TypeId)
 | mkd (t : TypeId)
 | pan (t : TypeId)
 | ifc (t : TypeId)
 | ilk (neg : Bool) (t u : TypeId)
 | alc (t : TypeId)
 | blt (t : TypeId) (i : Nat)
 | ins (t : TypeId)
 | aps (t u : TypeId)
 | yld (ts : List TypeId)
 | sub (t : TypeId) (lo hi : Bool)
 | trc (t : TypeId)
 | clp (t : TypeId)
 | tdv (rem : Bool) (t u : TypeId)
inductive M where
 | mv (fz : Bool) (x : X)
 | pick (c a b : X)
 | alloc (z : List D)
 | box (isA : Bool) (x : X)
 | ld (n : Option Nat) (x : X)
 | st (n : Option Nat) (p x : X)
 | fld (off : Nat) (x : X)
 | ixs (sz : Nat) (x i : X)
 | ixa (len sz : Nat) (x i : X)
 | part (off : Nat) (n : Option Nat) (x : X)
 | ixv (len sz : Nat) (n : Option Nat) (x i : X)
 | sidx (x i : X)
 | bld (z : List D) (parts : List (Nat × Option Nat × X))
 | bsl (mode : Option Bool) (e : TypeId) (sz : Nat) (n : Option Nat) (xs : List X)
 | bin (op : BinOp) (k : IntKind) (x y : X)
 | cat (x y : X)
 | eqb (neg str : Bool) (x y : X)
 | eqS (neg : Bool) (ks : List CK) (x y : X)
 | not (x : X)
 | neg (k : IntKind) (x : X)
 | conv (k : IntKind) (x : X)
 | cvw (k : IntKind) (x : X)
 | b2s (x : X)
 | len (str : Bool) (x : X)
 | mx (x y : X)
 | mn (x y : X)
 | call (eff : Bool) (f : Nat) (xs : List X)
 | callv (eff : Bool) (x : X) (xs : List X)
 | clo (f : Nat) (xs : List X)
 | nilS (e : TypeId) (sz : Nat)
 | nilF (e : TypeId) (sz : Nat)
 | mks (e : TypeId) (sz : Nat) (n : Option Nat) (z : List D) (l c : X)
 | app (e : TypeId) (sz bytes : Nat) (x y : X)
 | cpy (e : TypeId) (sz : Nat) (x y : X)
 | sls (eff : Bool) (sz : Nat) (x : X) (lo hi : Option X)
 | sst (x : X) (lo hi : Option X)
 | sla (len sz : Nat) (x : X) (lo hi : Option X)
 | ext (x : X) (i : Nat)
 | chk (x : X)
 | prm (nd eff : Bool) (p : Pr) (xs : List X)
 | callK (l : List Nat) (f : Nat) (xs : List X)
 | callC (f : Nat) (xs : List X)
 | callN (n f : Nat) (xs : List X)
 | callR (l : List Nat) (f : Nat) (xs : List X)
structure O where
 dst : Option Nat
 g : Option (Nat × Bool)
 m : M
 fp : Option (List Nat)
def o1 (d : Nat) (m : M) : O := ⟨some d, none, m, none⟩
def o0 (m : M) : O := ⟨none, none, m, none⟩
def og (d s : Nat) (b : Bool) (m : M) : O := ⟨some d, some (s, b), m, none⟩
theorem Je {α : Type} (l : List α) : List.append [] l = l := rfl
theorem Jd {α : Type} (a : α) (l m : List α) : List.append (a :: l) m = a :: List.append l m := rfl
theorem zh {α : Type} (l : List α) : [] ++ l = l := rfl
theorem jN4 {α : Type} (a : α) (l m : List α) : a :: l ++ m = a :: (l ++ m) := rfl
theorem jT {α : Type} (a b : α) : cond true a b = a := rfl
theorem jS {α : Type} (a b : α) : cond false a b = b := rfl
inductive C where
 | skip
 | reg (draw : Bool) (ops : List O) (keep : Option (List Nat))
 | seq (a b : C)
 | ite (x : X) (a b : C)
 | blk (id : Nat) (c : C)
 | loop (c : C)
 | exit (id : Nat)
 | ret
 | rangef (x : X) (ps : List Nat) (a b : C)
def QE : List D -> List D
 | [.bsl _ _ sz _] => [.ls sz []]
 | z => z
def M.bare : M -> M
 | .alloc z => .alloc (QE z)
 | .mv _ x => .mv false x
 | .bsl _ e sz n xs => .bsl none e sz n xs
 | .call _ f xs => .call false f xs
 | .callv _ x xs => .callv false x xs
 | .sls _ sz x lo hi => .sls false sz x lo hi
 | .prm _ _ p xs => .prm false false p xs
 | .callK _ f xs => .call false f xs
 | .callC f xs => .call false f xs
 | .callN _ f xs => .call false f xs
 | .callR _ f xs => .call false f xs
 | .nilF e sz => .nilS e sz
 | .cvw k x => .conv k x
 | m => m
def O.bare : O -> O
 | ⟨d, g, m, _⟩ => ⟨d, g, m.bare, none⟩
def Ja : List O -> List O
 | [] => []
 | o :: os => o.bare :: Ja os
def C.bare : C -> C
 | .reg d ops _ => .reg d (Ja ops) none
 | .seq a b => .seq a.bare b.bare
 | .ite x a b => .ite x a.bare b.bare
 | .blk id c => .blk id c.bare
 | .loop c => .loop c.bare
 | .rangef x ps a b => .rangef x ps a.bare b.bare
 | c => c
inductive Ex where
 | nrm
 | exit (id : Nat)
 | ret
structure Gh where
 m : Nat
 es : Array MapEntry
 clock : Nat
inductive Ent where
 | cells (l : List D)
 | arr (e : TypeId) (sz ver : Nat) (rows : List D)
 | gone
 | map (ks vs : List D)
 | iter (cur : Option (D × D)) (ks vs : List D)
 | mapx (g : Gh) (ks vs : List D)
 | ito (g : Gh) (seen : Array Nat) (cur : Option (D × D)) (ks vs : List D)
 | tcells (T : TypeId) (l : List D)
 | fresh
 | obj (o : Obj)
abbrev G := List (Nat × Bool)
abbrev x4 := List (Nat × G × D)
structure St where
 env : x4
 bx : List Ent
def get : x4 -> Nat -> Option (G × D)
 | [], _ => none
 | (s, g, d) :: r, t => bif s == t then some (g, d) else get r t
/-! Bool's own words, by cases. -/
def bA : Bool -> Bool -> Bool | true, b => b | false, _ => false
def bO : Bool -> Bool -> Bool | true, _ => true | false, b => b
def bN : Bool -> Bool | true => false | false => true
def bE : Bool -> Bool -> Bool | true, b => b | false, b => bN b
def jz : G -> Nat -> Bool -> Bool
 | [], _, _ => false
 | (s, b) :: r, t, c => bO (bA (s == t) (bE b c)) (jz r t c)
def jy : G -> G -> Bool
 | [], _ => true
 | (s, b) :: r, g => bA (jz g s b) (jy r g)
def jg : G -> Nat -> Bool
 | [], _ => true
 | (s, _) :: r, t => bA (bN (s == t)) (jg r t)
def jh (g : G) : x4 -> Nat -> Bool
 | [], _ => false
 | (s, _, _) :: r, t => bif s == t then true else bA (jg g s) (jh g r t)
def rd (env : x4) (g : G) (s : Nat) : Option D :=
 match get env s with
 | none => none
 | some ([], d) => some d
 | some (h :: t, d) => bif bA (jy (h :: t) g) (jh (h :: t) env s) then some d else none
def jB (env : x4) (g0 : G) : G -> List Prop
 | [] => []
 | (s, pol) :: r => match rd env g0 s with
   | some (.bool b) => (b = pol) :: jB env g0 r
   | _ => jB env g0 r
def jo7 : List Prop -> Prop
 | [] => False
 | p :: ps => ¬ p \/ jo7 ps
def jx : List Prop -> Prop -> Prop
 | [], k => k
 | p :: ps, k => p /\ jx ps k
def km : List Prop -> Prop -> Prop
 | [], k => k
 | p :: ps, k => p -> km ps k
def jP (hs : List Prop) : List Prop -> List Prop
 | [] => []
 | p :: ps => km hs p :: jP hs ps
def jL (env : x4) (g : G) : X -> Option D
 | .c d => some d
 | .t s => rd env g s
def kq (env : x4) (g : G) : List X -> Option (List D)
 | [] => some []
 | x :: xs =>
   match jL env g x, kq env g xs with
   | some d, some l => some (d :: l)
   | _, _ => none
def kL : List D -> Nat -> Option D
 | [], _ => none
 | d :: _, 0 => some d
 | _ :: l, n + 1 => kL l n
def ki : List D -> Nat -> D -> Option (List D)
 | [], _, _ => none
 | _ :: l, 0, d => some (d :: l)
 | x :: l, n + 1, d => match ki l n d with | some l' => some (x :: l') | none => none
def kd : List D -> Nat -> List D -> Option (List D)
 | l, _, [] => some l
 | l, o, d :: ds => match ki l o d with | some l' => kd l' (o + 1) ds | none => none
def jM : List D -> Nat -> Option (List D)
 | _, 0 => some []
 | [], _ + 1 => none
 | d :: l, n + 1 => match jM l n with | some r => some (d :: r) | none => none
def jN : List D -> Nat -> List D
 | l, 0 => l
 | [], _ + 1 => []
 | _ :: l, n + 1 => jN l n
def jC (l : List D) (off : Nat) : Option Nat -> Option D
 | none => kL l off
 | some n => match jM (jN l off) n with | some r => some (.agg r) | none => none
def kp : List D -> Nat -> Bool
 | [], 0 => true
 | [], _ + 1 => false
 | _ :: l, n + 1 => kp l n
 | _ :: _, 0 => false
def kj : D -> Bool
 | .agg _ | .tup _ | .any => false
 | _ => true
def Xl (d : D) (off : Nat) (n : Option Nat) : Option D :=
 match d with
 | .agg l => jC l off n
 | d => match off, n, kj d with | 0, none, true => some d | _, _, _ => none
def jH (n : Option Nat) (d : D) : Option (List D) :=
 match n with
 | none => bif kj d then some [d] else none
 | some n => match d with
   | .agg l => bif kp l n then some l else none
   | _ => none
def ql (n : Option Nat) : List D -> Bool
 | [] => true
 | d :: l => match jH n d with | some _ => ql n l | none => false
def qB : List D -> List (Nat × Option Nat × X) -> List D -> Option (List D)
 | z, [], [] => some z
 | z, (off, n, _) :: r, d :: ds =>
   match jH n d with
   | some c => match kd z off c with | some z' => qB z' r ds | none => none
   | none => none
 | _, _, _ => none
def kT : List (Nat × Option Nat × X) -> List X
 | [] => []
 | (_, _, x) :: r => x :: kT r
def jI : List Ent -> Nat -> Option Ent
 | [], _ => none
 | e :: _, 0 => some e
 | _ :: l, n + 1 => jI l n
def jQ : List Ent -> Nat -> Ent -> List Ent
 | [], _, _ => []
 | _ :: l, 0, e => e :: l
 | x :: l, n + 1, e => x :: jQ l n e
def jD : List Ent -> Nat
 | [] => 0
 | _ :: l => jD l + 1
def jX : List Ent -> Ent -> List Ent
 | [], e => [e]
 | x :: l, e => x :: jX l e
def kU : IntKind -> IntKind -> Bool
 | .i8, .i8 | .i16, .i16 | .i32, .i32 | .i64, .i64 | .u8, .u8 | .u16, .u16 | .u32, .u32 | .u64, .u64 => true
 | _, _ => false
def j5 : IntKind -> Int -> Prop
 | .i8, n => -128 <= n /\ n <= 127
 | .i16, n => -32768 <= n /\ n <= 32767
 | .i32, n => -2147483648 <= n /\ n <= 2147483647
 | .i64, n => -9223372036854775808 <= n /\ n <= 9223372036854775807
 | .u8, n => 0 <= n /\ n <= 255
 | .u16, n => 0 <= n /\ n <= 65535
 | .u32, n => 0 <= n /\ n <= 4294967295
 | .u64, n => 0 <= n /\ n <= 18446744073709551615
inductive Res where
 | bad
 | ok (p : List Prop) (d : D) (bx : List Ent)
 | call (p : List Prop) (eff : Bool) (f : Nat) (ds : List D)
 | row (p : List Prop) (l : List D) (i off : Nat) (n : Option Nat)
 | arr (p : List Prop) (l : List D) (i : Nat) (n : Option Nat)
 | ask (p : List Prop) (Q : D -> Prop)
 | put (p : List Prop) (Q : List D -> Prop) (d : D) (mk : List D -> List Ent)
 | prm (p : List Prop) (eff : Bool) (q : Pr) (ds : List D)
 | all (p : List Prop) (q : Pr) (ds : List D)
 | callK (p : List Prop) (l : List Nat) (f : Nat) (ds : List D)
 | callC (p : List Prop) (f : Nat) (ds : List D)
 | callN (p : List Prop) (n f : Nat) (ds : List D)
 | callR (p : List Prop) (l : List Nat) (f : Nat) (ds : List D)
def jj8 : IntKind -> Int -> Int -> Prop
 | .i8, _, y => 0 < y
 | .i16, x, y => 0 <= x /\ 0 < y
 | .i32, x, y => 0 <= x /\ 0 < y
 | .i64, x, y => 0 <= x /\ 0 < y
 | .u8, x, y => 0 <= x /\ 0 < y
 | .u16, x, y => 0 <= x /\ 0 < y
 | .u32, x, y => 0 <= x /\ 0 < y
 | .u64, x, y => 0 <= x /\ 0 < y
def jb7 : IntKind -> Int -> Int -> Int
 | .i8, x, y => Int.tmod x y
 | .i16, x, y => x % y
 | .i32, x, y => x % y
 | .i64, x, y => x % y
 | .u8, x, y => x % y
 | .u16, x, y => x % y
 | .u32, x, y => x % y
 | .u64, x, y => x % y
theorem kG6 {k : IntKind} {x y : Int} (h : jj8 k x y) : 0 < y /\ Int.tmod x y = jb7 k x y := by
 cases k <;> simp only [jj8] at h <;> simp only [jb7]
 case i8 => exact ⟨h, trivial⟩
 all_goals exact ⟨h.2, Int.tmod_eq_emod_of_nonneg h.1⟩
def ko (op : BinOp) (k : IntKind) (x y : Int) (bx : List Ent) : Res :=
 match op with
 | .add => .ok [j5 k (x + y)] (.int k (x + y)) bx
 | .sub => .ok [j5 k (x - y)] (.int k (x - y)) bx
 | .mul => .ok [j5 k (x * y)] (.int k (x * y)) bx
 | .quo => .ok [0 <= x /\ 0 < y /\ j5 k (x / y)] (.int k (x / y)) bx
 | .rem => .ok [jj8 k x y] (.int k (jb7 k x y)) bx
 | .shr => .ok [0 <= y /\ y < k.bits] (.int k (x / 2 ^ y.toNat)) bx
 | .shl => .ok [0 <= y /\ y < k.bits /\ j5 k (x * 2 ^ y.toNat)] (.int k (x * 2 ^ y.toNat)) bx
 | .and => .ok [0 <= x /\ 0 <= y /\ j5 k x /\ j5 k y] (.int k (Int.ofNat (x.toNat &&& y.toNat))) bx
 | .or => .ok [0 <= x /\ 0 <= y /\ j5 k x /\ j5 k y] (.int k (Int.ofNat (x.toNat ||| y.toNat))) bx
 | .xor => .ok [0 <= x /\ 0 <= y /\ j5 k x /\ j5 k y] (.int k (Int.ofNat (x.toNat ^^^ y.toNat))) bx
 | .andNot => .ok [0 <= x /\ 0 <= y /\ j5 k x /\ j5 k y] (.int k (Int.ofNat ((x.toNat ^^^ y.toNat) &&& x.toNat))) bx
 | .eql => .ok [] (.bool (decide (x = y))) bx
 | .neq => .ok [] (.bool (!decide (x = y))) bx
 | .lss => .ok [] (.bool (decide (x < y))) bx
 | .leq => .ok [] (.bool (decide (x <= y))) bx
 | .gtr => .ok [] (.bool (decide (y < x))) bx
 | .geq => .ok [] (.bool (decide (y <= x))) bx
def jR : BinOp -> Bool
 | .shr | .shl => true
 | _ => false
def eqC : CK -> D -> D -> Option Bool
 | .i k, .int k1 x, .int k2 y => bif bA (kU k k1) (kU k k2) then some (decide (x = y)) else none
 | .b, .bool x, .bool y => some (x == y)
 | .s, .str x, .str y => some (x == y)
 | _, _, _ => none
def ZG : Bool -> List CK -> List D -> List D -> Option Bool
 | a, [], [], [] => some a
 | a, k :: ks, x :: l, y :: r => match eqC k x y with
   | some b => match ZG b ks l r with | some c => some (a && c) | none => none
   | none => none
 | _, _, _, _ => none
def jV6 : List CK -> List D -> List D -> Option Bool
 | [], [], [] => some true
 | k :: ks, x :: l, y :: r => match eqC k x y with | some a => ZG a ks l r | none => none
 | _, _, _ => none
def jr2 : Bool -> Bool -> Bool
 | true, b => !b
 | false, b => b
def yP : D -> Bool
 | .int .. | .bool _ | .str _ => true
 | _ => false
def kg9 : List D -> Bool
 | [] => true
 | d :: l => yP d && kg9 l
def VU : D -> Bool
 | .agg l | .tup l => kg9 l
 | d => yP d
mutual
def closed : D -> Bool
 | .int .. | .bool _ | .str _ | .ls .. | .mp .. | .nil | .glob .. | .ifc _ => true
 | .agg l | .tup l | .fn _ l => jV l
 | _ => false
def jV : List D -> Bool
 | [] => true
 | d :: l => bA (closed d) (jV l)
end
mutual
def lend (bx : List Ent) : D -> Option (List Prop × Bool × D)
 | .int k n => some ([], false, .int k n)
 | .bool b => some ([], false, .bool b)
 | .str s => some ([], false, .str s)
 | .ls sz l => some ([], false, .ls sz l)
 | .mp ks vs => some ([], false, .mp ks vs)
 | .nil => some ([], false, .nil)
 | .glob g off => some ([], false, .glob g off)
 | .ifc b => some ([], false, .ifc b)
 | .own k ver => match jI bx k with
   | some (.arr _ sz ver' rows) => some ([ver = ver'], true, .ls sz rows)
   | _ => none
 | .ownm k ver => match jI bx k with
   | some (.map ks vs) => some ([ver = 0, jV vs = true], true, .mp ks vs)
   | _ => none
 | .osl k ver sz off len => match jI bx k with
   | some (.arr _ sz' ver' rows) => some ([ver = ver' /\ sz = sz' /\ off + len <= rows.length], true, .ls sz ((rows.take (off + len)).drop off))
   | _ => none
 | .agg l => match kA bx l with | some (p, o, l') => some (p, o, .agg l') | none => none
 | .tup l => match kA bx l with | some (p, o, l') => some (p, o, .tup l') | none => none
 | .fn f l => match kA bx l with | some (p, o, l') => some (p, o, .fn f l') | none => none
 | _ => none
def kA (bx : List Ent) : List D -> Option (List Prop × Bool × List D)
 | [] => some ([], false, [])
 | d :: l => match lend bx d with
   | some (p, o, d') => match kA bx l with
     | some (q, o', l') => some (p ++ q, (match o with | true => true | false => o'), d' :: l')
     | none => none
   | none => none
end
mutual
def frz (bx : List Ent) : D -> Option (List Prop × D × List Ent)
 | .int k n => some ([], .int k n, bx)
 | .bool b => some ([], .bool b, bx)
 | .str s => some ([], .str s, bx)
 | .ls sz l => some ([], .ls sz l, bx)
 | .mp ks vs => some ([], .mp ks vs, bx)
 | .nil => some ([], .nil, bx)
 | .glob g off => some ([], .glob g off, bx)
 | .ifc b => some ([], .ifc b, bx)
 | .own k ver => match jI bx k with
   | some (.arr _ sz ver' rows) => some ([ver = ver'], .ls sz rows, jQ bx k .gone)
   | _ => none
 | .ownm k ver => match jI bx k with
   | some (.map ks vs) => some ([ver = 0, jV vs = true], .mp ks vs, jQ bx k .gone)
   | _ => none
 | .agg l => match jx6 bx l with | some (p, l', bx') => some (p, .agg l', bx') | none => none
 | .tup l => match jx6 bx l with | some (p, l', bx') => some (p, .tup l', bx') | none => none
 | .fn f l => match jx6 bx l with | some (p, l', bx') => some (p, .fn f l', bx') | none => none
 | _ => none
def jx6 (bx : List Ent) : List D -> Option (List Prop × List D × List Ent)
 | [] => some ([], [], bx)
 | d :: l => match frz bx d with
   | some (p, d', bx') => match jx6 bx' l with
     | some (q, l', bx'') => some (p ++ q, d' :: l', bx'')
     | none => none
   | none => none
end
def ka4 (r : D) (off : Nat) (n : Option Nat) (d : D) : Option D :=
 match r with
 | .agg l => match jH n d with
   | some c => match kd l off c with | some l' => some (.agg l') | none => none
   | none => none
 | r => match off, n, kj r, kj d with | 0, none, true, true => some d | _, _, _, _ => none
def ke9 (rows : List D) (i off : Nat) (n : Option Nat) (d : D) (rows' : List D) : Prop :=
 ∃ r r', rows[i]? = some r /\ ka4 r off n d = some r' /\ rows' = rows.set i r'
def JO (s : List UInt8) : List D := s.map fun b => .int .u8 b.toNat
def kN6 (l : List D) (d : D) : Prop := ∃ s, l = JO s /\ d = .str s
def ju (gt : Nat -> Option (List D)) (bx : List Ent) (n : Option Nat) : Option D -> Res
 | some (.box k off) => match jI bx k with
   | some (.cells l) => match jC l off n with
     | some d => .ok [] d bx
     | none => .bad
   | _ => .bad
 | some (.boxi k off) => match jI bx k with
   | some (.cells l) => .arr [] l off n
   | _ => .bad
 | some (.glob g off) => match gt g with
   | some l => .arr [] l off n
   | none => .bad
 | some (.el _ l i off) => .row [] l i off n
 | some (.elo k ver sz i off) => match jI bx k with
   | some (.arr _ sz' ver' rows) => .row [ver = ver' /\ sz = sz'] rows i off n
   | _ => .bad
 | _ => .bad
def jJ (bx : List Ent) (n : Option Nat) : Option D -> Option D -> Res
 | some (.box k off), some d => match jI bx k with
   | some (.cells l) => match jH n d with
     | some c => match kd l off c with
       | some l' => .ok [] .any (jQ bx k (.cells l'))
       | none => .bad
     | none => .bad
   | _ => .bad
 | some (.boxi k off), some d => match jI bx k with
   | some (.cells l) => match jH n d with
     | some c => .put [] (fun l' => kd l off c = some l') .any (fun l' => jQ bx k (.cells l'))
     | none => .bad
   | _ => .bad
 | some (.elo k ver sz i off), some d => match jI bx k with
   | some (.arr e sz' ver' rows) => match closed d with
     | true => .put [ver = ver' /\ sz = sz'] (ke9 rows i off n d) .any (fun rows' => jQ bx k (.arr e sz' ver' rows'))
     | false => .bad
   | _ => .bad
 | _, _ => .bad
def j6 (bx : List Ent) (sz : Nat) : Option D -> Option D -> Res
 | some (.ls sz' l), some (.int _ n) => .ok [sz = sz' /\ 0 <= n /\ n < l.length] (.el sz' l n.toNat 0) bx
 | some (.own k ver), some (.int _ n) => match jI bx k with
   | some (.arr _ sz' ver' rows) => .ok [ver = ver' /\ sz = sz' /\ 0 <= n /\ n < rows.length] (.elo k ver sz n.toNat 0) bx
   | _ => .bad
 | some (.bsl k base sz' len), some (.int _ n) => .ok [sz = sz' /\ 0 <= n /\ n < len] (.boxi k (base + n.toNat * sz)) bx
 | _, _ => .bad
def vp (bx : List Ent) (len sz : Nat) : Option D -> Option D -> Res
 | some (.box k off), some (.int _ n) => .ok [0 <= n /\ n < len] (.boxi k (off + n.toNat * sz)) bx
 | some (.boxi k off), some (.int _ n) => .ok [0 <= n /\ n < len] (.boxi k (off + n.toNat * sz)) bx
 | some (.glob g off), some (.int _ n) => .ok [0 <= n /\ n < len] (.glob g (off + n.toNat * sz)) bx
 | some (.el sz' l i off), some (.int _ n) => .ok [0 <= n /\ n < len] (.el sz' l i (off + n.toNat * sz)) bx
 | some (.elo k ver sz' i off), some (.int _ n) => .ok [0 <= n /\ n < len] (.elo k ver sz' i (off + n.toNat * sz)) bx
 | _, _ => .bad
def kz (bx : List Ent) : Bool -> Option D -> Res
 | false, some (.ls _ l) => .ok [] (.int .i64 l.length) bx
 | true, some (.str s) => .ok [] (.int .i64 s.length) bx
 | false, some (.bsl _ _ _ n) => .ok [] (.int .i64 n) bx
 | false, some (.own k ver) => match jI bx k with
   | some (.arr _ _ ver' rows) => .ok [ver = ver'] (.int .i64 rows.length) bx
   | _ => .bad
 | _, _ => .bad
def qg (bx : List Ent) (e : TypeId) (sz by_ : Nat) : Option D -> Option D -> Res
 | some (.own k ver), some (.ls sz' m) => match jI bx k with
   | some (.arr e' sz'' ver' rows) => .ok [ver = ver' /\ e = e' /\ sz = sz' /\ sz = sz'' /\ (rows.length + m.length) * by_ <= 140737488355328 /\ rows.length + m.length <= 140737488355328] (.own k (ver + 1)) (jQ bx k (.arr e sz (ver + 1) (rows ++ m)))
   | _ => .bad
 | some (.own k ver), some (.own k2 ver2) => match jI bx k, jI bx k2 with
   | some (.arr e' sz'' ver' rows), some (.arr _ sz' ver2' m) => match k == k2 with
     | false => .ok [ver = ver' /\ ver2 = ver2' /\ e = e' /\ sz = sz' /\ sz = sz'' /\ (rows.length + m.length) * by_ <= 140737488355328 /\ rows.length + m.length <= 140737488355328] (.own k (ver + 1)) (jQ bx k (.arr e sz (ver + 1) (rows ++ m)))
     | true => .bad
   | _, _ => .bad
 | _, _ => .bad
def vg (a b : Nat) : Nat := if a <= b then a else b
def over (rows m : List D) : List D := (m.take rows.length) ++ rows.drop (vg m.length rows.length)
def xX (bx : List Ent) (e : TypeId) (sz : Nat) : Option D -> Option D -> Res
 | some (.own k ver), some (.ls sz' m) => match jI bx k with
   | some (.arr e' sz'' ver' rows) => .ok [ver = ver' /\ e = e' /\ sz = sz' /\ sz = sz''] (.int .i64 (vg m.length rows.length)) (jQ bx k (.arr e sz ver (over rows m)))
   | _ => .bad
 | some (.own k ver), some (.own k2 ver2) => match jI bx k, jI bx k2 with
   | some (.arr e' sz'' ver' rows), some (.arr _ sz' ver2' m) => match k == k2 with
     | false => .ok [ver = ver' /\ ver2 = ver2' /\ e = e' /\ sz = sz' /\ sz = sz''] (.int .i64 (vg m.length rows.length)) (jQ bx k (.arr e sz ver (over rows m)))
     | true => .bad
   | _, _ => .bad
 | some (.own k ver), some (.bsl k2 base sz2 len) => match jI bx k, jI bx k2 with
   | some (.arr e' sz'' ver' rows), some (.cells l) => match Nat.beq sz 1 with
     | true => .ok [ver = ver' /\ e = e' /\ sz2 = sz /\ sz = sz'' /\ base + len <= l.length /\ jV ((l.drop base).take len) = true] (.int .i64 (vg len rows.length)) (jQ bx k (.arr e sz ver (over rows ((l.drop base).take len))))
     | false => .bad
   | _, _ => .bad
 | _, _ => .bad
def kg (env : x4) (g : G) (bx : List Ent) (s : Nat) : X -> X -> Res
 | .c (.bool true), b => match rd env g s, jL env ((s, false) :: g) b with
   | some (.bool c), some (.bool r) => .ok [] (.bool (c || r)) bx
   | _, _ => .bad
 | a, .c (.bool false) => match rd env g s, jL env ((s, true) :: g) a with
   | some (.bool c), some (.bool r) => .ok [] (.bool (c && r)) bx
   | _, _ => .bad
 | _, _ => .bad
def jx7 (env : x4) (g : G) (dflt : Int) : Option X -> Option Int
 | none => some dflt
 | some x => match jL env g x with | some (.int _ n) => some n | _ => none
def xV (bx : List Ent) (lo : Option Int) (hi : Int -> Option Int) : Option D -> Res
 | some (.str s) => match lo, hi s.length with
   | some a, some b => .ok [0 <= a /\ a <= b /\ b <= s.length] (.str ((s.take b.toNat).drop a.toNat)) bx
   | _, _ => .bad
 | _ => .bad
def zT (bx : List Ent) (g : G) (eff : Bool) (sz : Nat) (lo : Option Int) (hi : Int -> Option Int) : Option D -> Res
 | some (.ls sz' l) => match lo, hi l.length with
   | some a, some b => .ok [sz = sz' /\ 0 <= a /\ a <= b /\ b <= l.length] (.ls sz ((l.take b.toNat).drop a.toNat)) bx
   | _, _ => .bad
 | some (.own k ver) => match eff, g, jI bx k with
   | true, [], some (.arr _ sz' ver' l) => match lo, hi l.length with
     | some a, some b => .ok [ver = ver' /\ sz = sz' /\ 0 <= a /\ a <= b /\ b <= l.length] (.ls sz ((l.take b.toNat).drop a.toNat)) (jQ bx k .gone)
     | _, _ => .bad
   | _, _, _ => .bad
 | some (.bsl k base sz' len) => match lo, hi len with
   | some a, some b => .ok [sz = sz' /\ 0 <= a /\ a <= b /\ b <= len] (.bsl k (base + a.toNat * sz) sz (b - a).toNat) bx
   | _, _ => .bad
 | _ => .bad
def xW (bx : List Ent) (len sz : Nat) (lo : Option Int) (hi : Option Int) : Option D -> Res
 | some (.box k off) => match lo, hi with
   | some a, some b => .ok [0 <= a /\ a <= b /\ b <= len] (.bsl k (off + a.toNat * sz) sz (b - a).toNat) bx
   | _, _ => .bad
 | some (.boxi k off) => match lo, hi with
   | some a, some b => .ok [0 <= a /\ a <= b /\ b <= len] (.bsl k (off + a.toNat * sz) sz (b - a).toNat) bx
   | _, _ => .bad
 | _ => .bad
def kD (env : x4) : G -> Bool
 | [] => true
 | [(s, _)] => match get env s with
   | some ([], .bool _) => true
   | _ => false
 | _ => false
def ji2 (n : Option Nat) (z : List D) : Option D :=
 match n, z with
 | some _, z => some (.agg z)
 | none, [d] => some d
 | none, _ => none
def ZC : D -> Bool
 | .box .. | .boxi .. | .el .. | .elo .. | .glob .. | .fn .. => true
 | _ => false
def jl (gt : Nat -> Option (List D)) (m : M) (g : G) (env : x4) (bx : List Ent) : Res :=
 match m with
 | .mv fz x => match fz, g, jL env g x with
   | false, _, some d => .ok [] d bx
   | true, [], some d => match frz bx d with
     | some (q, d', bx') => .ok q d' bx'
     | none => .bad
   | _, _, _ => .bad
 | .pick (.t s) a b => kg env g bx s a b
 | .pick (.c _) _ _ => .bad
 | .alloc z => match g with
   | [] => match z with
     | [.bsl e _ sz _] => .ok [] (.box (jD bx) 0) (jX (jX bx (.cells [.own (jD bx + 1) 0])) (.arr e sz 0 []))
     | z => .ok [] (.box (jD bx) 0) (jX bx (.cells z))
   | _ => .bad
 | .box isA x => match g with
   | [] => match isA, jL env [] x with
     | true, some (.agg l) => .ok [] (.box (jD bx) 0) (jX bx (.cells l))
     | false, some d => bif kj d then .ok [] (.box (jD bx) 0) (jX bx (.cells [d])) else .bad
     | _, _ => .bad
   | _ => .bad
 | .ld n x => ju gt bx n (jL env g x)
 | .st n a x => match g with
   | [] => jJ bx n (jL env [] a) (jL env [] x)
   | _ => .bad
 | .fld off x => match jL env g x with
   | some (.box k o) => .ok [] (.box k (o + off)) bx
   | some (.boxi k o) => .ok [] (.boxi k (o + off)) bx
   | some (.glob k o) => .ok [] (.glob k (o + off)) bx
   | some (.el sz l i o) => .ok [] (.el sz l i (o + off)) bx
   | some (.elo k v sz i o) => .ok [] (.elo k v sz i (o + off)) bx
   | _ => .bad
 | .ixs sz x i => j6 bx sz (jL env g x) (jL env g i)
 | .ixa len sz x i => vp bx len sz (jL env g x) (jL env g i)
 | .part off n x => match jL env g x with
   | some (.agg l) => match jC l off n with
     | some d' => .ok [] d' bx
     | none => .bad
   | _ => .bad
 | .ixv len sz n x i => match jL env g x, jL env g i with
   | some (.agg l), some (.int _ j) => .arr [0 <= j /\ j < len] l (j.toNat * sz) n
   | _, _ => .bad
 | .sidx x i => match jL env g x, jL env g i with
   | some (.str s), some (.int _ j) => .ok [0 <= j /\ j < s.length] (.int .u8 (s.getD j.toNat 0).toNat) bx
   | _, _ => .bad
 | .bld z parts => match kq env g (kT parts) with
   | some ds => match qB z parts ds with
     | some l => .ok [] (.agg l) bx
     | none => .bad
   | none => .bad
 | .bsl mode e sz n xs => match mode, g, kq env g xs with
   | none, _, some ds => match bA (jV ds) (ql n ds) with
     | true => .ok [] (.ls sz ds) bx
     | false => .bad
   | some false, [], some ds => match bA (jV ds) (ql n ds) with
     | true => .ok [] (.own (jD bx) 1) (jX bx (.arr e sz 1 ds))
     | false => .bad
   | some true, [], some ds => match ql n ds, jx6 bx ds with
     | true, some (q, ds', bx') => .ok q (.ls sz ds') bx'
     | _, _ => .bad
   | _, _, _ => .bad
 | .bin op k x y => match jL env g x, jL env g y with
   | some (.int k1 a), some (.int k2 b) => match kU k k1, kU k k2, jR op with
     | true, true, _ => ko op k a b bx
     | true, _, true => ko op k a b bx
     | _, _, _ => .bad
   | _, _ => .bad
 | .cat x y => match jL env g x, jL env g y with
   | some (.str a), some (.str b) => .ok [a.length + b.length < 9223372036854775808] (.str (a ++ b)) bx
   | _, _ => .bad
 | .eqb neg str x y => match str, jL env g x, jL env g y with
   | true, some (.str a), some (.str b) => .ok [] (.bool (jr2 neg (decide (a = b)))) bx
   | false, some (.bool a), some (.bool b) => .ok [] (.bool (jr2 neg (a == b))) bx
   | _, _, _ => .bad
 | .eqS neg ks x y => match jL env g x, jL env g y with
   | some (.agg a), some (.agg b) => match jV6 ks a b with
     | some e => .ok [] (.bool (jr2 neg e)) bx
     | none => .bad
   | _, _ => .bad
 | .not x => match jL env g x with | some (.bool b) => .ok [] (.bool (!b)) bx | _ => .bad
 | .neg k x => match jL env g x with | some (.int k1 n) => (match kU k k1 with | true => .ok [j5 k (-n)] (.int k (-n)) bx | false => .bad) | _ => .bad
 | .conv k x => match jL env g x with | some (.int _ n) => .ok [j5 k n] (.int k n) bx | _ => .bad
 | .cvw k x => match jL env g x with | some (.int _ n) => .ok [] (.int k (k.wrap n)) bx | _ => .bad
 | .b2s x => match jL env g x with
   | some (.ls sz l) => .ask [sz = 1] (kN6 l)
   | some (.own k ver) => match jI bx k with
     | some (.arr _ sz ver' l) => .ask [sz = 1 /\ ver = ver'] (kN6 l)
     | _ => .bad
   | _ => .bad
 | .len str x => kz bx str (jL env g x)
 | .mx x y => match jL env g x, jL env g y with
   | some (.int k a), some (.int _ b) => .ok [] (.int k (max a b)) bx
   | _, _ => .bad
 | .mn x y => match jL env g x, jL env g y with
   | some (.int k a), some (.int _ b) => .ok [] (.int k (min a b)) bx
   | _, _ => .bad
 | .call eff f xs => match eff, g, kq env g xs with
   | false, _, some ds => .call [] false f ds
   | true, [], some ds => .call [] true f ds
   | _, _, _ => .bad
 | .callK l f xs => match g, kq env g xs with
   | [], some ds => .callK [] l f ds
   | _, _ => .bad
 | .callC f xs => match kq env g xs with
   | some ds => .callC [] f ds
   | none => .bad
 | .callN n f xs => match g, kq env g xs with
   | [], some ds => .callN [] n f ds
   | _, _ => .bad
 | .callR l f xs => match kq env g xs with
   | some ds => .callR [] l f ds
   | none => .bad
 | .callv eff x xs => match eff, g, jL env g x, kq env g xs with
   | false, _, some (.fn f caps), some ds => .call [] false f (List.append ds caps)
   | true, [], some (.fn f caps), some ds => .call [] true f (List.append ds caps)
   | _, _, _, _ => .bad
 | .clo f xs => match kq env g xs with
   | some ds => .ok [] (.fn f ds) bx
   | none => .bad
 | .nilF _ sz => .ok [] (.ls sz []) bx
 | .nilS e sz => match g with
   | [] => .ok [] (.own (jD bx) 0) (jX bx (.arr e sz 0 []))
   | _ => .bad
 | .mks e sz n z l c => match g, ji2 n z, jL env g l, jL env g c with
   | [], some r, some (.int _ a), some (.int _ b) => .ok [0 <= a /\ a <= b /\ b <= 4294967296] (.own (jD bx) 1) (jX bx (.arr e sz 1 (List.replicate a.toNat r)))
   | _, _, _, _ => .bad
 | .app e sz by_ x y => match g with
   | [] => qg bx e sz by_ (jL env [] x) (jL env [] y)
   | _ => .bad
 | .cpy e sz x y => match g with
   | [] => xX bx e sz (jL env [] x) (jL env [] y)
   | _ => .bad
 | .sls eff sz x lo hi => zT bx g eff sz (jx7 env g 0 lo) (fun n => jx7 env g n hi) (jL env g x)
 | .sst x lo hi => xV bx (jx7 env g 0 lo) (fun n => jx7 env g n hi) (jL env g x)
 | .sla len sz x lo hi => xW bx len sz (jx7 env g 0 lo) (jx7 env g len hi) (jL env g x)
 | .chk x => match jL env g x with
   | some d => match ZC d with | true => .ok [] d bx | false => .bad
   | none => .bad
 | .prm nd eff p xs => match nd, eff, g, kq env g xs with
   | false, false, _, some ds => .prm [] false p ds
   | false, true, _, some ds => match kD env g with | true => .prm [] true p ds | false => .bad
   | true, _, [], some ds => .all [] p ds
   | _, _, _, _ => .bad
 | .ext x i => match jL env g x with
   | some (.tup l) => match kL l i with | some d => .ok [] d bx | none => .bad
   | _ => .bad
def ji (env : x4) : Option (Nat × Bool) -> Option G
 | none => some []
 | some (s, pol) => match get env s with
   | some ([], .bool _) => some [(s, pol)]
   | some (h :: t, .bool _) => bif jh (h :: t) env s then some ((s, pol) :: h :: t) else none
   | _ => none
def jk (g : G) : Option Nat -> Bool
 | none => true
 | some s => jg g s
def jj (dst : Option Nat) : Option G -> Option G
 | none => none
 | some g => match jk g dst with | true => some g | false => none
def jw (dst : Option Nat) (g : G) (d : D) (env : x4) : x4 :=
 match dst with
 | some s => (s, g, d) :: env
 | none => env
def zu : List Nat -> Nat -> Bool
 | [], _ => false
 | s :: l, t => bO (s == t) (zu l t)
def zm : List Nat -> List Nat -> Bool
 | [], _ => true
 | x :: l, r => bA (zu r x) (zm l r)
def qC : Option D -> Option (List Nat)
 | some (.box k _) | some (.boxi k _) | some (.elo k _ _ _ _) | some (.own k _) | some (.bsl k _ _ _) => some [k]
 | some (.ls ..) | some (.glob ..) | some (.el ..) | some (.str _) => some []
 | _ => none
def KY : Nat -> Nat -> List Nat
 | _, 0 => []
 | s, n + 1 => s :: KY (s + 1) n
def zb (m : M) (g : G) (env : x4) (bx : List Ent) : Option (List Nat) :=
 match m with
 | .alloc z => match z with
   | [.bsl _ _ _ _] => some [jD bx, jD (jX bx .gone)]
   | _ => some [jD bx]
 | .ld _ x | .ixs _ x _ | .len _ x => qC (jL env g x)
 | .st _ a _ => qC (jL env [] a)
 | .app _ _ _ x _ => qC (jL env [] x)
 | .callN n _ _ => some (KY (jD bx) n)
 | _ => none
def jA (fp : Option (List Nat)) (m : M) (g : G) (env : x4) (bx : List Ent) : Bool :=
 match fp with
 | none => true
 | some l => match zb m g env bx with | some f => zm f l | none => false
def kJ8 (b : Bool) (p : Prop) : Prop := match b with | true => p | false => False
structure CallP where
 fn : Nat -> List D -> List Ent -> D -> List Ent -> Prop
 pr : Pr -> List D -> List Ent -> D -> List Ent -> Prop
 al : Pr -> List D -> List Ent -> (D -> List Ent -> Prop) -> Prop
 it : Nat -> List D -> List (List D) -> (List Ent -> Prop) -> Prop
instance : CoeFun CallP (fun _ => Nat -> List D -> List Ent -> D -> List Ent -> Prop) := ⟨CallP.fn⟩
section
variable (Sp : CallP) (gt : Nat -> Option (List D))
def qp (n : Nat) : List Ent := List.replicate n .fresh
def AgrN (l : List Nat) (bx bx2 : List Ent) : Prop := ∀ k ∈ l, jI bx k = jI bx2 k
def Kept (l : List Nat) (bx bx' : List Ent) : Prop := ∀ k, k ∉ l -> jI bx' k = jI bx k
def jD3 (R : St -> Prop) (hs : List Prop) (dst : Option Nat) (g : G) (st : St) : Res -> Prop
 | .bad => False
 | .ok p d bx => jx (jP hs p) (R ⟨jw dst g d st.env, bx⟩)
 | .call p eff f ds => jx (jP hs p) (∃ d bx', km hs (Sp f ds st.bx d bx') /\ (eff = false -> bx' = st.bx) /\ R ⟨jw dst g d st.env, bx'⟩)
 | .row p l i off n => jx (jP hs p) (∃ d d', km hs (l[i]? = some d) /\ Xl d off n = some d' /\ R ⟨jw dst g d' st.env, st.bx⟩)
 | .arr p l i n => jx (jP hs p) (∃ d, km hs (jC l i n = some d) /\ R ⟨jw dst g d st.env, st.bx⟩)
 | .ask p Q => jx (jP hs p) (∃ d, km hs (Q d) /\ R ⟨jw dst g d st.env, st.bx⟩)
 | .put p Q d mk => jx (jP hs p) (∃ l', km hs (Q l') /\ R ⟨jw dst g d st.env, mk l'⟩)
 | .prm p eff q ds => jx (jP hs p) (∃ d bx', km hs (Sp.pr q ds st.bx d bx') /\ (eff = false -> bx' = st.bx) /\ (jo7 hs -> bx' = st.bx) /\ R ⟨jw dst g d st.env, bx'⟩)
 | .callK p l f ds => jx (jP hs p) (∃ d bx', Sp f ds st.bx d bx' /\ Kept l st.bx bx' /\ R ⟨jw dst g d st.env, bx'⟩)
 | .callC p f ds => jx (jP hs p) (∃ d, km hs (∀ bx, Sp f ds bx d bx) /\ R ⟨jw dst g d st.env, st.bx⟩)
 | .callN p n f ds => jx (jP hs p) (∃ d bx', Sp f ds st.bx d bx' /\ ((∀ t, Sp f ds (st.bx ++ (qp n ++ t)) d (bx' ++ t)) /\ ∃ es, bx' = st.bx ++ es /\ es.length = n) /\ R ⟨jw dst g d st.env, bx'⟩)
 | .callR p l f ds => jx (jP hs p) (∃ d, km hs (∀ bx2, AgrN l st.bx bx2 -> Sp f ds bx2 d bx2) /\ R ⟨jw dst g d st.env, st.bx⟩)
 | .all p q ds => jx (jP hs p) (∃ T : D -> List Ent -> Prop, Sp.al q ds st.bx T /\ ∀ d bx', T d bx' -> R ⟨jw dst g d st.env, bx'⟩)
def kd1 (R : St -> Prop) (o : O) (st : St) : Option G -> Prop
 | none => False
 | some g => kJ8 (jA o.fp o.m g st.env st.bx) (jD3 Sp R (jB st.env g g) o.dst g st (jl gt o.m g st.env st.bx))
def qj : List O -> (St -> Prop) -> St -> Prop
 | [], K, st => K st
 | o :: os, K, st => kd1 Sp gt (qj os K) o st (jj o.dst (ji st.env o.g))
/-! The same, said in words that a walk can stand at. -/
def jf4 (hs : List Prop) (eff : Bool) (f : Nat) (ds : List D) (dst : Option Nat) (g : G) (os : List O) (st : St) (K : St -> Prop) : Prop :=
 ∃ d bx', km hs (Sp f ds st.bx d bx') /\ (eff = false -> bx' = st.bx) /\ qj Sp gt os K ⟨jw dst g d st.env, bx'⟩
def kN2 (hs : List Prop) (l : List D) (i off : Nat) (n : Option Nat) (dst : Option Nat) (g : G) (os : List O) (st : St) (K : St -> Prop) : Prop :=
 ∃ d d', km hs (l[i]? = some d) /\ Xl d off n = some d' /\ qj Sp gt os K ⟨jw dst g d' st.env, st.bx⟩
def kN3 (hs : List Prop) (Q : List D -> Prop) (d : D) (mk : List D -> List Ent) (dst : Option Nat) (g : G) (os : List O) (st : St) (K : St -> Prop) : Prop :=
 ∃ l', km hs (Q l') /\ qj Sp gt os K ⟨jw dst g d st.env, mk l'⟩
def kC9 (hs : List Prop) (eff : Bool) (q : Pr) (ds : List D) (dst : Option Nat) (g : G) (os : List O) (st : St) (K : St -> Prop) : Prop :=
 ∃ d bx', km hs (Sp.pr q ds st.bx d bx') /\ (eff = false -> bx' = st.bx) /\ (jo7 hs -> bx' = st.bx) /\ qj Sp gt os K ⟨jw dst g d st.env, bx'⟩
def kk6 (l : List Nat) (f : Nat) (ds : List D) (dst : Option Nat) (g : G) (os : List O) (st : St) (K : St -> Prop) : Prop :=
 ∃ d bx', Sp f ds st.bx d bx' /\ Kept l st.bx bx' /\ qj Sp gt os K ⟨jw dst g d st.env, bx'⟩
def kk7 (hs : List Prop) (f : Nat) (ds : List D) (dst : Option Nat) (g : G) (os : List O) (st : St) (K : St -> Prop) : Prop :=
 ∃ d, km hs (∀ bx, Sp f ds bx d bx) /\ qj Sp gt os K ⟨jw dst g d st.env, st.bx⟩
def kk5 (n f : Nat) (ds : List D) (dst : Option Nat) (g : G) (os : List O) (st : St) (K : St -> Prop) : Prop :=
 ∃ d bx', Sp f ds st.bx d bx' /\ ((∀ t, Sp f ds (st.bx ++ (qp n ++ t)) d (bx' ++ t)) /\ ∃ es, bx' = st.bx ++ es /\ es.length = n) /\ qj Sp gt os K ⟨jw dst g d st.env, bx'⟩
def kN4 (q : Pr) (ds : List D) (dst : Option Nat) (g : G) (os : List O) (st : St) (K : St -> Prop) : Prop :=
 ∃ T : D -> List Ent -> Prop, Sp.al q ds st.bx T /\ ∀ d bx', T d bx' -> qj Sp gt os K ⟨jw dst g d st.env, bx'⟩
variable {Sp gt}
theorem kH {hs : List Prop} {eff : Bool} {q : Pr} {ds : List D} {dst : Option Nat} {g : G} {os : List O} {st : St} {K : St -> Prop} (d : D) (h : km hs (Sp.pr q ds st.bx d st.bx))
  (hk : qj Sp gt os K ⟨jw dst g d st.env, st.bx⟩) : kC9 Sp gt hs eff q ds dst g os st K := ⟨d, st.bx, h, fun _ => rfl, fun _ => rfl, hk⟩
theorem kS {q : Pr} {ds : List D} {dst : Option Nat} {g : G} {os : List O} {st : St} {K : St -> Prop} (d : D) (bx' : List Ent) (h : Sp.pr q ds st.bx d bx')
  (hk : qj Sp gt os K ⟨jw dst g d st.env, bx'⟩) : kC9 Sp gt [] true q ds dst g os st K := ⟨d, bx', h, nofun, fun h => h.elim, hk⟩
theorem Jp {q : Pr} {ds : List D} {dst : Option Nat} {g : G} {os : List O} {st : St} {K : St -> Prop} (T : D -> List Ent -> Prop) (h : Sp.al q ds st.bx T)
  (hk : ∀ d bx', T d bx' -> qj Sp gt os K ⟨jw dst g d st.env, bx'⟩) : kN4 Sp gt q ds dst g os st K := ⟨T, h, hk⟩
theorem kh {hs : List Prop} {l : List D} {i off : Nat} {n : Option Nat} {dst : Option Nat} {g : G} {os : List O} {st : St} {K : St -> Prop} (d d' : D) (h : km hs (l[i]? = some d)) (hp : Xl d off n = some d')
  (hk : qj Sp gt os K ⟨jw dst g d' st.env, st.bx⟩) : kN2 Sp gt hs l i off n dst g os st K := ⟨d, d', h, hp, hk⟩
theorem qR {hs : List Prop} {rows : List D} {i off : Nat} {n : Option Nat} {dd d : D} {mk : List D -> List Ent} {dst : Option Nat} {g : G} {os : List O} {st : St} {K : St -> Prop} (r r' : D) (h : rows[i]? = some r) (hp : ka4 r off n dd = some r')
  (hk : qj Sp gt os K ⟨jw dst g d st.env, mk (rows.set i r')⟩) : kN3 Sp gt [] (ke9 rows i off n dd) d mk dst g os st K := ⟨_, ⟨r, r', h, hp, rfl⟩, hk⟩
variable (Sp gt)
def jx5 (os : List O) (K : St -> Prop) (hs : List Prop) (dst : Option Nat) (g : G) (st : St) (r : Res) : Prop := jD3 Sp (qj Sp gt os K) hs dst g st r
def goG (os : List O) (K : St -> Prop) (o : O) (st : St) (g : Option G) : Prop := kd1 Sp gt (qj Sp gt os K) o st g
theorem jb (K : St -> Prop) (st : St) : qj Sp gt [] K st = K st := rfl
theorem ja (o : O) (os : List O) (K : St -> Prop) (st : St) : qj Sp gt (o :: os) K st = goG Sp gt os K o st (jj o.dst (ji st.env o.g)) := rfl
theorem jd (os : List O) (K : St -> Prop) (o : O) (st : St) (g : G) : goG Sp gt os K o st (some g) = kJ8 (jA o.fp o.m g st.env st.bx) (jx5 Sp gt os K (jB st.env g g) o.dst g st (jl gt o.m g st.env st.bx)) := rfl
theorem jf (os : List O) (K : St -> Prop) (hs : List Prop) (dst : Option Nat) (g : G) (st : St) (p : List Prop) (d : D) (bx : List Ent) :
  jx5 Sp gt os K hs dst g st (.ok p d bx) = jx (jP hs p) (qj Sp gt os K ⟨jw dst g d st.env, bx⟩) := rfl
theorem jq (os : List O) (K : St -> Prop) (hs : List Prop) (dst : Option Nat) (g : G) (st : St) (p : List Prop) (eff : Bool) (f : Nat) (ds : List D) :
  jx5 Sp gt os K hs dst g st (.call p eff f ds) = jx (jP hs p) (jf4 Sp gt hs eff f ds dst g os st K) := rfl
theorem ku (os : List O) (K : St -> Prop) (hs : List Prop) (dst : Option Nat) (g : G) (st : St) (p : List Prop) (l : List D) (i off : Nat) (n : Option Nat) :
  jx5 Sp gt os K hs dst g st (.row p l i off n) = jx (jP hs p) (kN2 Sp gt hs l i off n dst g os st K) := rfl
theorem vB (os : List O) (K : St -> Prop) (hs : List Prop) (dst : Option Nat) (g : G) (st : St) (p : List Prop) (Q : List D -> Prop) (d : D) (mk : List D -> List Ent) :
  jx5 Sp gt os K hs dst g st (.put p Q d mk) = jx (jP hs p) (kN3 Sp gt hs Q d mk dst g os st K) := rfl
theorem Xt (os : List O) (K : St -> Prop) (hs : List Prop) (dst : Option Nat) (g : G) (st : St) (p : List Prop) (l : List Nat) (f : Nat) (ds : List D) :
  jx5 Sp gt os K hs dst g st (.callK p l f ds) = jx (jP hs p) (kk6 Sp gt l f ds dst g os st K) := rfl
theorem za (os : List O) (K : St -> Prop) (hs : List Prop) (dst : Option Nat) (g : G) (st : St) (p : List Prop) (f : Nat) (ds : List D) :
  jx5 Sp gt os K hs dst g st (.callC p f ds) = jx (jP hs p) (kk7 Sp gt hs f ds dst g os st K) := rfl
theorem kc9 (os : List O) (K : St -> Prop) (hs : List Prop) (dst : Option Nat) (g : G) (st : St) (p : List Prop) (n f : Nat) (ds : List D) :
  jx5 Sp gt os K hs dst g st (.callN p n f ds) = jx (jP hs p) (kk5 Sp gt n f ds dst g os st K) := rfl
theorem j4 (os : List O) (K : St -> Prop) (hs : List Prop) (dst : Option Nat) (g : G) (st : St) (p : List Prop) (eff : Bool) (q : Pr) (ds : List D) :
  jx5 Sp gt os K hs dst g st (.prm p eff q ds) = jx (jP hs p) (kC9 Sp gt hs eff q ds dst g os st K) := rfl
theorem yl (os : List O) (K : St -> Prop) (hs : List Prop) (dst : Option Nat) (g : G) (st : St) (p : List Prop) (q : Pr) (ds : List D) :
  jx5 Sp gt os K hs dst g st (.all p q ds) = jx (jP hs p) (kN4 Sp gt q ds dst g os st K) := rfl
end
def kl5 (env : x4) : x4 -> Prop
 | [] => True
 | (s, g, d) :: r => get env s = some (g, d) /\ kl5 env r
def Vf : List Ent -> List Ent -> Prop
 | _, [] => True
 | e :: l, f :: r => e = f /\ Vf l r
 | [], _ :: _ => False
mutual
def low (n : Nat) : D -> Bool
 | .box k _ | .boxi k _ | .bsl k _ _ _ | .own k _ | .ownm k _ | .elo k _ _ _ _ | .yld k | .osl k _ _ _ _ => Nat.blt k n
 | .agg l | .tup l | .fn _ l => vb n l
 | _ => true
def vb (n : Nat) : List D -> Bool
 | [] => true
 | d :: l => low n d && vb n l
end
def jx2 (n : Nat) : x4 -> Bool
 | [] => true
 | (_, [], d) :: r => low n d && jx2 n r
 | _ => false
def k8 (n : Nat) : List Ent -> Bool
 | [] => true
 | .cells l :: r => vb n l && k8 n r
 | .arr _ _ _ _ :: r => k8 n r
 | .gone :: r => k8 n r
 | .fresh :: r => k8 n r
 | .obj _ :: r => k8 n r
 | .map ks vs :: r => vb n ks && (vb n vs && k8 n r)
 | .iter _ _ _ :: r => k8 n r
 | .mapx _ _ _ :: r => k8 n r
 | .ito _ _ _ _ _ :: r => k8 n r
 | .tcells _ l :: r => vb n l && k8 n r
def Sub (n0 : Nat) (st st' : St) : Prop := Nat.ble n0 (jD st'.bx) = true /\ kl5 st.env st'.env /\ Vf st.bx st'.bx /\ jx2 (jD st'.bx) st'.env = true /\ k8 (jD st'.bx) st'.bx = true
def jr (env : x4) : List Nat -> x4
 | [] => []
 | s :: ks => match rd env [] s with
   | some d => (s, [], d) :: jr env ks
   | none => jr env ks
def jt : Option (List Nat) -> St -> St
 | none, st => st
 | some ks, st => ⟨jr st.env ks, st.bx⟩
def jF (ks : Option (List Nat)) (K : Ex -> St -> Prop) (st : St) : Prop := K .nrm (jt ks st)
def kC (id : Nat) (K : Ex -> St -> Prop) : Ex -> St -> Prop
 | .exit j, st' => bif j == id then K .nrm st' else K (.exit j) st'
 | .nrm, st' => K .nrm st'
 | .ret, st' => K .ret st'
def Q0 (R : St -> Prop) (K : Ex -> St -> Prop) : Ex -> St -> Prop
 | .nrm, st' => R st'
 | .exit j, st' => K (.exit j) st'
 | .ret, st' => K .ret st'
def Yi (n0 : Nat) (I : St -> Prop) (s : St) : Prop := I s \/ ∃ s', Sub n0 s s' /\ I s'
def ky (A B : Prop) : Option D -> Prop
 | some (.bool c) => (c = true -> A) /\ (c = false -> B)
 | _ => False
def jo : x4 -> Bool
 | [] => true
 | (_, [], _) :: r => jo r
 | _ => false
def VT : List Nat -> List D -> x4 -> x4
 | p :: ps, d :: ds, env => VT ps ds ((p, [], d) :: env)
 | _, _, env => env
def vH : List Ent -> List Ent -> List Ent
 | _ :: a, x :: b => x :: vH a b
 | _, _ => []
def goK (b0 : List Ent) (o : Obj) (b1 : List Ent) : Ex -> St -> Prop
 | .nrm, s => jI s.bx (jD b0) = some (.obj o) /\ vH b0 s.bx = b1
 | _, _ => False
def ks9 (b0 : List Ent) (o : Obj) (e : Ex) (b1 : List Ent) (e' : Ex) (s : St) : Prop := e' = e /\ jI s.bx (jD b0) = some (.obj o) /\ vH b0 s.bx = b1
def jK4 : Ex -> Bool
 | .nrm => false
 | _ => true
def ko0 (n : Nat) (o : Obj) (R : Obj -> St -> Prop) : Ex -> St -> Prop
 | .nrm, t => jI t.bx n = some (.obj o) /\ ∀ o', R o' ⟨t.env, jQ t.bx n (.obj o')⟩
 | _, _ => False
def zw : C -> Bool
 | .loop _ => false
 | .rangef .. => false
 | .seq a b => zw a && zw b
 | .ite _ a b => zw a && zw b
 | .blk _ c => zw c
 | _ => true
def jx3 : List D -> List Nat -> Bool
 | [], [] => true
 | _ :: l, _ :: r => jx3 l r
 | [], _ :: _ => false
 | _ :: _, [] => false
def Stp (ra rb : (Ex -> St -> Prop) -> St -> Prop) (ps : List Nat) (K : Ex -> St -> Prop) (st : St) (xs : List (List D)) (bm : List Ent) (m : Nat) : Prop :=
 ∃ e bs, jK4 e = true /\ jD bs = jD st.bx /\ k8 (jD st.bx) bs = true /\ (∀ x o, xs[m]? = some x -> ra (ko0 (jD st.bx) o fun o' t => rb (ks9 st.bx o' e bs) t) ⟨VT ps x st.env, jX bm (.obj o)⟩) /\ K e ⟨st.env, bs⟩
structure Rng (it : Nat -> List D -> List (List D) -> (List Ent -> Prop) -> Prop) (ps : List Nat) (ra rb : (Ex -> St -> Prop) -> St -> Prop) (K : Ex -> St -> Prop) (st : St) (f : Nat) (caps : List D) (xs : List (List D)) (Kp : List Ent -> Prop) (S : Nat -> List Ent) (m : Nat) : Prop where
 it : it f caps xs Kp
 pl : jo st.env = true
 len : ∀ x ∈ xs, jx3 x ps = true
 few : m <= xs.length
 low : ∀ i, i <= m -> jD (S i) = jD st.bx /\ k8 (jD st.bx) (S i) = true /\ Kp (S i)
 start : S 0 = st.bx
 round : ∀ i x o, i < m -> xs[i]? = some x -> ra (ko0 (jD st.bx) o fun o' t => rb (goK st.bx o' (S (i + 1))) t) ⟨VT ps x st.env, jX (S i) (.obj o)⟩
 stop : m < xs.length -> Stp ra rb ps K st xs (S m) m
 done : m = xs.length -> K .nrm ⟨st.env, S m⟩
def kP5 (it : Nat -> List D -> List (List D) -> (List Ent -> Prop) -> Prop) (ps : List Nat) (ra rb : (Ex -> St -> Prop) -> St -> Prop) (K : Ex -> St -> Prop) (st : St) : Option D -> Prop
 | some (.fn f caps) => ∃ xs Kp S m, Rng it ps ra rb K st f caps xs Kp S m
 | _ => False
section
variable (Sp : CallP) (gt : Nat -> Option (List D)) (n0 : Nat)
def run : C -> (Ex -> St -> Prop) -> St -> Prop
 | .skip, K, st => K .nrm st
 | .reg _ ops ks, K, st => kJ8 (jo st.env) (qj Sp gt ops (jF ks K) st)
 | .seq a b, K, st => run a (Q0 (run b K) K) st
 | .ite x a b, K, st => ky (run a K st) (run b K st) (jL st.env [] x)
 | .blk id c, K, st => run c (kC id K) st
 | .loop c, K, st => ∀ I : St -> Prop, (∀ s, run c (Q0 (Yi n0 I) K) s -> I s) -> Yi n0 I st
 | .exit id, K, st => K (.exit id) st
 | .ret, K, st => K .ret st
 | .rangef x ps a b, K, st => kJ8 (zw a && zw b) (kP5 Sp.it ps (run a) (run b) K st (jL st.env [] x))
def XZ (b : C) (K : Ex -> St -> Prop) : Ex -> St -> Prop := Q0 (run Sp gt n0 b K) K
theorem je (b : C) (K : Ex -> St -> Prop) (st : St) : XZ Sp gt n0 b K .nrm st = run Sp gt n0 b K st := rfl
theorem j1 (b : C) (K : Ex -> St -> Prop) (j : Nat) (st : St) : XZ Sp gt n0 b K (.exit j) st = K (.exit j) st := rfl
theorem jO (b : C) (K : Ex -> St -> Prop) (st : St) : XZ Sp gt n0 b K .ret st = K .ret st := rfl
theorem jE (K : Ex -> St -> Prop) (st : St) : run Sp gt n0 .skip K st = K .nrm st := rfl
theorem jm (d : Bool) (ops : List O) (ks : Option (List Nat)) (K : Ex -> St -> Prop) (st : St) : run Sp gt n0 (.reg d ops ks) K st = kJ8 (jo st.env) (qj Sp gt ops (jF ks K) st) := rfl
theorem jc (p : Prop) : kJ8 true p = p := rfl
theorem jn (a b : C) (K : Ex -> St -> Prop) (st : St) : run Sp gt n0 (.seq a b) K st = run Sp gt n0 a (XZ Sp gt n0 b K) st := rfl
theorem jU (id : Nat) (c : C) (K : Ex -> St -> Prop) (st : St) : run Sp gt n0 (.blk id c) K st = run Sp gt n0 c (kC id K) st := rfl
theorem kt (id : Nat) (K : Ex -> St -> Prop) (st : St) : run Sp gt n0 (.exit id) K st = K (.exit id) st := rfl
theorem jG (K : Ex -> St -> Prop) (st : St) : run Sp gt n0 .ret K st = K .ret st := rfl
theorem jK (x : X) (a b : C) (K : Ex -> St -> Prop) (st : St) : run Sp gt n0 (.ite x a b) K st = ky (run Sp gt n0 a K st) (run Sp gt n0 b K st) (jL st.env [] x) := rfl
end
inductive R where
 | t (s : Nat)
 | cell (s : Nat) (n : Option Nat)
def kr (st : St) : R -> Option D
 | .t s => rd st.env [] s
 | .cell s n => match rd st.env [] s with
   | some (.box k off) => match jI st.bx k with
     | some (.cells l) => jC l off n
     | _ => none
   | _ => none
def j7 (st : St) : List R -> Option (List D)
 | [] => some []
 | r :: rs => match kr st r, j7 st rs with
   | some d, some l => some (d :: l)
   | _, _ => none
def j9 : List D -> D
 | [d] => d
 | l => .tup l
def qH (F : D -> List Ent -> Prop) (bx : List Ent) : Option (List D) -> Prop
 | some l => F (j9 l) bx
 | none => False
def qX (rs : List R) (F : D -> List Ent -> Prop) : Ex -> St -> Prop
 | .exit _, _ => False
 | .nrm, st => qH F st.bx (j7 st rs)
 | .ret, st => qH F st.bx (j7 st rs)
def kx (R : D -> Prop) : Option (List Prop × Bool × D) -> Prop
 | some (q, _, d) => jx q (R d)
 | none => False
def jZ (bx : List Ent) : Option (List D) -> Option (List Prop × Bool × D)
 | some l => lend bx (j9 l)
 | none => none
def kw (rs : List R) (R : D -> Prop) : Ex -> St -> Prop
 | .exit _, _ => False
 | .nrm, st => kx R (jZ st.bx (j7 st rs))
 | .ret, st => kx R (jZ st.bx (j7 st rs))
def env0 : Nat -> List D -> x4
 | _, [] => []
 | n, d :: l => (n, [], d) :: env0 (n + 1) l
end Go.AM
set_option linter.all false
namespace Go.AM
open Go
def zl (P : Program) (t : TypeId) : Option Nat := (P.info? t).map (·.size)
def ve (P : Program) (t : TypeId) : Option (Option Nat) :=
 match P.underlying t, P.info? t with
 | some (.struct _), some i | some (.array _ _), some i => if i.size = 0 then none else some (some i.size)
 | some .bool, some i | some (.int _), some i | some .string, some i | some (.slice _), some i | some (.func _ _ _), some i | some (.pointer _), some i | some (.map _ _), some i => if i.size = 1 then some none else none
 | _, _ => none
def ju0 (P : Program) (t : TypeId) : Value -> Option D
 | .int k n => some (.int k n)
 | .bool b => some (.bool b)
 | .string s => some (.str s.data.toList)
 | .slice none 0 0 => match P.underlying t with
   | some (.slice e) => (zl P e).map fun n => .ls n []
   | _ => none
 | .nilFunc | .pointer none => some .nil
 | .nilIface => some (.ifc true)
 | .map none => some (.mp [] [])
 | _ => none
def qm (P : Program) (t : TypeId) : Operand -> Option X
 | .tmp s => some (.t s)
 | .const v => (ju0 P t v).map .c
 | .global g => some (.c (.glob g 0))
 | .func f => some (.c (.fn f []))
def kr3 (P : Program) : Nat -> TypeId -> Option (List D)
 | 0, _ => none
 | d + 1, t => match P.underlying t with
   | some (.int k) => some [.int k 0]
   | some .bool => some [.bool false]
   | some .string => some [.str []]
   | some (.slice e) => (zl P e).map fun n => [.ls n []]
   | some (.struct fs) => (fs.toList.mapM fun f => kr3 P d f.type).map List.flatten
   | some (.array n e) => (kr3 P d e).map fun z => (List.replicate n z).flatten
   | some (.func _ _ _) | some (.pointer _) => some [.nil]
   | some (.map _ _) => some [.mp [] []]
   | _ => none
def ka8 : D -> Value -> Bool
 | .int k n, .int k' n' => kU k k' && n == n'
 | .bool b, .bool b' => b == b'
 | .str s, .string s' => s == s'.data.toList
 | .ls _ [], .slice none 0 0 => true
 | .nil, .nilFunc | .nil, .pointer none => true
 | .mp [] [], .map none => true
 | _, _ => false
def yy : List D -> List Value -> Bool
 | [], [] => true
 | d :: l, v :: r => ka8 d v && yy l r
 | _, _ => false
def xB (P : Program) (t : TypeId) : Option (List D) :=
 match kr3 P 8 t, (P.info? t).bind (·.zero) with
 | some l, some z => if yy l z.cells.toList then some l else none
 | _, _ => none
def qy (P : Program) (t : TypeId) : Option IntKind := match P.underlying t with | some (.int k) => some k | _ => none
def xh (P : Program) : Nat -> List Field -> Option (List CK)
 | _, [] => some []
 | j, f :: fs =>
   if f.offset = j /\ f.name ≠ "_" /\ zl P f.type = some 1 then
    match P.underlying f.type, xh P (j + 1) fs with
    | some .bool, some l => some (.b :: l)
    | some .string, some l => some (.s :: l)
    | some (.int k), some l => some (.i k :: l)
    | _, _ => none
   else none
def Xj (P : Program) (t : TypeId) : Option (List CK) :=
 match P.underlying t with
 | some (.struct fs) => if P.eqGuardType P.depth t = false /\ P.stoodInHeld t = false then xh P 0 fs.toList else none
 | _ => none
def je7 (P : Program) (neg : Bool) (t : TypeId) (x y : Operand) : Option M := do
 let x' <- qm P t x
 let y' <- qm P t y
 match P.underlying t with
 | some .bool => some (.eqb neg false x' y')
 | some .string => some (.eqb neg true x' y')
 | some (.struct _) => (Xj P t).map fun n => .eqS neg n x' y'
 | _ => none
def yn (P : Program) (b : Builtin) (args : List Operand) (ts : List TypeId) : Option M :=
 match b, args, ts with
 | .len, [x], [t] => match P.underlying t with
   | some (.slice _) => (qm P t x).map (.len false)
   | some .string => (qm P t x).map (.len true)
   | _ => none
 | .max, [x, y], [t, u] => do
   let _ <- qy P t
   let _ <- qy P u
   some (.mx (<- qm P t x) (<- qm P u y))
 | .min, [x, y], [t, u] => do
   let _ <- qy P t
   let _ <- qy P u
   some (.mn (<- qm P t x) (<- qm P u y))
 | .append, [x, y], [t, u] => match P.underlying t with
   | some (.slice e) => if t = u then do
      let i <- P.info? e
      let z <- i.zero
      if z.cells.size = i.size /\ 0 < i.size /\ i.bytes <= 4096 then some (.app e i.size i.bytes (<- qm P t x) (<- qm P u y)) else none
     else none
   | _ => none
 | .copy, [x, y], [t, u] => match P.underlying t with
   | some (.slice e) => if t = u then do
      let i <- P.info? e
      if 0 < i.size then some (.cpy e i.size (<- qm P t x) (<- qm P u y)) else none
     else none
   | _ => none
 | _, _, _ => none
def zF (P : Program) : List Operand -> List TypeId -> Option (List X)
 | [], [] => some []
 | x :: xs, t :: ts => match qm P t x, zF P xs ts with | some a, some l => some (a :: l) | _, _ => none
 | _, _ => none
def xg (P : Program) (fs : Nat -> Option (Nat × TypeId)) : List (Nat × Operand) -> Option (List (Nat × Option Nat × X))
 | [] => some []
 | (i, x) :: r => match fs i, xg P fs r with
   | some (off, t), some l => match ve P t, qm P t x with
     | some n, some x' => some ((off, n, x') :: l)
     | _, _ => none
   | _, _ => none
def vS (P : Program) (t : TypeId) : Nat -> List (Nat × Operand) -> Option (List X)
 | _, [] => some []
 | n, (i, x) :: r => if i = n then match qm P t x, vS P t (n + 1) r with | some x', some l => some (x' :: l) | _, _ => none else none
def jx1 (P : Program) : Option Operand -> Option (Option X)
 | none => some none
 | some x => match qm P 0 x with | some x' => some (some x') | none => none
def je6 (P : Program) (ty : TypeId) : Op -> Option M
 | .move (.const (.slice none 0 0)) | .assign (.const (.slice none 0 0)) => match P.underlying ty with
   | some (.slice e) => (zl P e).map (.nilS e)
   | _ => none
 | .move x | .assign x => (qm P ty x).map (.mv false)
 | .pick c a b => match qm P ty c, qm P ty a, qm P ty b with
   | some c', some a', some b' => some (.pick c' a' b')
   | _, _, _ => none
 | .alloc t => (xB P t).map .alloc
 | .box t x => match ve P t, qm P t x with
   | some n, some x' => some (.box n.isSome x')
   | _, _ => none
 | .build t parts => match xB P t, P.underlying t with
   | some z, some (.struct fs) => if (fs.toList.all fun f => (zl P f.type).isSome) then (xg P (fun i => fs[i]?.map fun f => (f.offset, f.type)) parts.toList).map (.bld z) else none
   | some z, some (.array _ e) => match zl P e with
     | some s => (xg P (fun i => some (i * s, e)) parts.toList).map (.bld z)
     | none => none
   | _, _ => none
 | .buildSlice t n parts => match P.underlying t with
   | some (.slice e) => match zl P e, ve P e, vS P e 0 parts.toList with
     | some s, some a, some xs => if xs.length = n /\ 0 < s /\ n * s <= 4096 /\ ((P.info? e).bind (·.zero)).isSome then some (.bsl none e s a xs) else none
     | _, _, _ => none
   | _ => none
 | .load t x => match ve P t, qm P 0 x with
   | some n, some x' => some (.ld n x')
   | _, _ => none
 | .store t a x => match ve P t, qm P 0 a, qm P t x with
   | some n, some a', some x' => some (.st n a' x')
   | _, _, _ => none
 | .fieldAddr s x f => match P.underlying s, qm P 0 x with
   | some (.struct fs), some x' => match fs[f]? with
     | some f => match zl P f.type with
       | some (_ + 1) => some (.fld f.offset x')
       | _ => none
     | none => none
   | _, _ => none
 | .indexAddr t x i => match P.underlying t, qm P t x, qm P 0 i with
   | some (.slice e), some x', some i' => match zl P e with
     | some (s + 1) => some (.ixs (s + 1) x' i')
     | _ => none
   | some (.array n e), some x', some i' => match zl P e with
     | some (s + 1) => some (.ixa n (s + 1) x' i')
     | _ => none
   | _, _, _ => none
 | .field t x f => match P.underlying t, qm P t x with
   | some (.struct fs), some x' => match fs[f]? with
     | some f => (ve P f.type).map fun n => .part f.offset n x'
     | none => none
   | _, _ => none
 | .index t x i => match P.underlying t, qm P t x, qm P 0 i with
   | some (.array n e), some x', some i' => match zl P e, ve P e with
     | some s, some a => some (.ixv n s a x' i')
     | _, _ => none
   | some .string, some x', some i' => some (.sidx x' i')
   | _, _, _ => none
 | .binOp op t x y yt => match qy P t with
   | some k => match qm P t x, qm P yt y with
     | some x', some y' => some (.bin op k x' y')
     | _, _ => none
   | none => match op with
     | .eql => je7 P false t x y
     | .neq => je7 P true t x y
     | .add => match P.underlying t, qm P t x, qm P t y with
       | some .string, some x', some y' => some (.cat x' y')
       | _, _, _ => none
     | _ => none
 | .unOp .not t x => (qm P t x).map .not
 | .unOp .neg t x => match qy P t, qm P t x with
   | some k, some x' => some (.neg k x')
   | _, _ => none
 | .convert s d x => match qy P s, qy P d, qm P s x with
   | some _, some k, some x' => some (.conv k x')
   | _, _, some x' => match P.underlying s, P.underlying d with
     | some (.slice e), some .string => match qy P e with | some .u8 => some (.b2s x') | _ => none
     | _, _ => none
   | _, _, _ => none
 | .nilCheck x => (qm P 0 x).map .chk
 | .makeFunc (.func f) first caps => if first.size = 0 then (zF P caps.toList (List.replicate caps.size 0)).map (.clo f) else none
 | .makeSlice t l c => match P.underlying t, qm P 0 l, qm P 0 c with
   | some (.slice e), some l', some c' => match P.info? e, xB P e, ve P e with
     | some i, some z, some n => if 0 < i.size /\ i.bytes <= 65536 /\ z.length = i.size then some (.mks e i.size n z l' c') else none
     | _, _, _ => none
   | _, _, _ => none
 | .slice t x lo hi none => match P.underlying t, qm P t x, jx1 P lo, jx1 P hi with
   | some .string, some x', some lo', some hi' => some (.sst x' lo' hi')
   | some (.slice e), some x', some lo', some hi' => match zl P e with
     | some (s + 1) => some (.sls false (s + 1) x' lo' hi')
     | _ => none
   | some (.array n e), some x', some lo', some hi' => match zl P e with
     | some (s + 1) => some (.sla n (s + 1) x' lo' hi')
     | _ => none
   | _, _, _, _ => none
 | .call c => match c.callee with
   | .builtin b => yn P b c.args.toList c.argTypes.toList
   | .value (.func f) => (zF P c.args.toList c.argTypes.toList).map (.call false f)
   | .value (.tmp s) => (zF P c.args.toList c.argTypes.toList).map (.callv false (.t s))
   | _ => none
 | .extract x i => (qm P 0 x).map (.ext · i)
 | _ => none
def Pr.op : Pr -> List Operand -> Option Op
 | .lkp t ok, [x, i] => some (.lookup t x i ok)
 | .upd t, [m, k, v] => some (.mapUpdate t m k v)
 | .mkm t, [] => some (.makeMap t none)
 | .mkm t, [x] => some (.makeMap t (some x))
 | .lenm t, [x] => some (.call ⟨.builtin .len, #[x], #[t]⟩)
 | .delm t u, [m, k] => some (.call ⟨.builtin .delete, #[m, k], #[t, u]⟩)
 | .rng t, [x] => some (.range t x)
 | .nxt b, [x] => some (.next x b)
 | .ent, [x] => some (.entry x)
 | .capS t, [x] => some (.call ⟨.builtin .cap, #[x], #[t]⟩)
 | .clr t, [x] => some (.call ⟨.builtin .clear, #[x], #[t]⟩)
 | .eqn neg t, [x] => some (.binOp (match neg with | true => .neq | false => .eql) t x (.const (.slice none 0 0)) t)
 | .alc t, [] => some (.alloc t)
 | .blt t i, [x] => some (.build t #[(i, x)])
 | .ins t, [m, k, v] => some (.insert t m k v)
 | .aps t u, [x, y] => some (.call ⟨.builtin .append, #[x, y], #[t, u]⟩)
 | .yld ts, x :: xs => some (.call ⟨.value x, ⟨xs⟩, ⟨ts⟩⟩)
 | .sub t true true, [x, a, b] => some (.slice t x (some a) (some b) none)
 | .sub t true false, [x, a] => some (.slice t x (some a) none none)
 | .sub t false true, [x, b] => some (.slice t x none (some b) none)
 | .trc t, [x, b] => some (.slice t x none (some b) none)
 | .mkd t, [l, c] => some (.makeSlice t l c)
 | .tdv r t u, [x, y] => some (.binOp (match r with | true => .rem | false => .quo) t x y u)
 | .clp t, [x, b, c] => some (.slice t x none (some b) (some c))
 | .ilk neg t u, [x] => some (.binOp (match neg with | true => .neq | false => .eql) t x (.const .nilIface) u)
 | _, _ => none
def jT1 (P : Program) : List Operand -> Option (List X)
 | [] => some []
 | x :: xs => match qm P 0 x, jT1 P xs with | some a, some l => some (a :: l) | _, _ => none
def Vc (P : Program) : Op -> Option M
 | .call ⟨.value (.tmp s), ⟨xs⟩, ⟨ts⟩⟩ => match jT1 P xs with | some xs' => some (.prm false false (.yld ts) (.t s :: xs')) | none => none
 | .slice t x (some a) (some b) none => match qm P 0 x, qm P 0 a, qm P 0 b with | some x', some a', some b' => some (.prm false false (.sub t true true) [x', a', b']) | _, _, _ => none
 | .slice t x (some a) none none => match qm P 0 x, qm P 0 a with | some x', some a' => some (.prm false false (.sub t true false) [x', a']) | _, _ => none
 | .slice t x none (some b) none => match qm P 0 x, qm P 0 b with | some x', some b' => some (.prm false false (.trc t) [x', b']) | _, _ => none
 | .slice t x none (some b) (some c) => match qm P 0 x, qm P 0 b, qm P 0 c with | some x', some b', some c' => some (.prm false false (.clp t) [x', b', c']) | _, _, _ => none
 | .makeSlice t x i => match qm P 0 x, qm P 0 i with | some x', some i' => some (.prm false false (.mkd t) [x', i']) | _, _ => none
 | .binOp .quo t x i u => match qm P t x, qm P u i with | some x', some i' => some (.prm false false (.tdv false t u) [x', i']) | _, _ => none
 | .binOp .rem t x i u => match qm P t x, qm P u i with | some x', some i' => some (.prm false false (.tdv true t u) [x', i']) | _, _ => none
 | .lookup t x i ok => match qm P 0 x, qm P 0 i with | some x', some i' => some (.prm false false (.lkp t ok) [x', i']) | _, _ => none
 | .mapUpdate t m k v => match qm P 0 m, qm P 0 k, qm P 0 v with | some m', some k', some v' => some (.prm false false (.upd t) [m', k', v']) | _, _, _ => none
 | .makeMap t none => some (.prm false false (.mkm t) [])
 | .makeMap t (some x) => match qm P 0 x with | some x' => some (.prm false false (.mkm t) [x']) | none => none
 | .range t x => match qm P 0 x with | some x' => some (.prm false false (.rng t) [x']) | none => none
 | .next x b => match qm P 0 x with | some x' => some (.prm false false (.nxt b) [x']) | none => none
 | .entry x => match qm P 0 x with | some x' => some (.prm false false .ent [x']) | none => none
 | .call ⟨.builtin .len, ⟨[x]⟩, ⟨[t]⟩⟩ => match qm P 0 x with | some x' => some (.prm false false (.lenm t) [x']) | none => none
 | .call ⟨.builtin .delete, ⟨[x, k]⟩, ⟨[t, u]⟩⟩ => match qm P 0 x, qm P 0 k with | some x', some k' => some (.prm false false (.delm t u) [x', k']) | _, _ => none
 | .call ⟨.builtin .cap, ⟨[x]⟩, ⟨[t]⟩⟩ => match qm P 0 x with | some x' => some (.prm false false (.capS t) [x']) | none => none
 | .call ⟨.builtin .clear, ⟨[x]⟩, ⟨[t]⟩⟩ => match qm P 0 x with | some x' => some (.prm false false (.clr t) [x']) | none => none
 | .alloc t => some (.prm false false (.alc t) [])
 | .build t ⟨[(i, x)]⟩ => match qm P 0 x with | some x' => some (.prm false false (.blt t i) [x']) | none => none
 | .insert t m k v => match qm P 0 m, qm P 0 k, qm P 0 v with | some m', some k', some v' => some (.prm false false (.ins t) [m', k', v']) | _, _, _ => none
 | .call ⟨.builtin .append, ⟨[x, y]⟩, ⟨[t, u]⟩⟩ => match qm P 0 x, qm P 0 y with | some x', some y' => some (.prm false false (.aps t u) [x', y']) | _, _ => none
 | .binOp .eql t x (.const .nilIface) u => match qm P 0 x with | some x' => some (.prm false false (.ilk false t u) [x']) | none => none
 | .binOp .neq t x (.const .nilIface) u => match qm P 0 x with | some x' => some (.prm false false (.ilk true t u) [x']) | none => none
 | .binOp .eql t x (.const (.slice none 0 0)) u => if t = u then (match qm P 0 x with | some x' => some (.prm false false (.eqn false t) [x']) | none => none) else none
 | .binOp .neq t x (.const (.slice none 0 0)) u => if t = u then (match qm P 0 x with | some x' => some (.prm false false (.eqn true t) [x']) | none => none) else none
 | _ => none
def jW4 (P : Program) (ty : TypeId) (op : Op) : Option M := match je6 P ty op with
 | some m => some m
 | none => Vc P op
def ju8 (P : Program) (ty : TypeId) (op : Op) (h : M) : Option M := match h with
 | .prm .. => Vc P op
 | _ => jW4 P ty op
def kM4 (nt : Nat) : Option Nat -> Bool
 | some d => decide (d < nt)
 | none => true
def kB0 (ops : Array Oper) : Option (Nat × Bool) -> Option (Option (Nat × Bool))
 | none => some none
 | some (j, pol) => match (ops[j]?).bind (·.dst) with
   | some s => some (some (s, pol))
   | none => none
def Y3 (P : Program) (nt : Nat) (ops : Array Oper) (o : Oper) (h : O) : Option O :=
 match ju8 P o.type o.op h.m, kM4 nt o.dst, kB0 ops o.guard with
 | some m, true, some g => some ⟨o.dst, g, m, none⟩
 | _, _, _ => none
def v8 (P : Program) (nt : Nat) (ops : Array Oper) : List Oper -> List O -> Option (List O)
 | [], [] => some []
 | o :: os, h :: hs => match Y3 P nt ops o h, v8 P nt ops os hs with | some a, some l => some (a :: l) | _, _ => none
 | _, _ => none
def jv3 : X -> List Nat
 | .t s => [s]
 | .c _ => []
def QW : List X -> List Nat
 | [] => []
 | x :: l => jv3 x ++ QW l
def kN9 : Option X -> List Nat
 | none => []
 | some x => jv3 x
def Jq : M -> List Nat
 | .mv _ x | .box _ x | .ld _ x | .fld _ x | .part _ _ x | .not x | .neg _ x | .conv _ x | .cvw _ x | .len _ x | .ext x _ | .b2s x | .chk x => jv3 x
 | .pick a b c => jv3 a ++ (jv3 b ++ jv3 c)
 | .alloc _ | .nilS .. | .nilF .. => []
 | .st _ a b | .ixs _ a b | .ixa _ _ a b | .ixv _ _ _ a b | .sidx a b | .bin _ _ a b | .cat a b | .eqb _ _ a b | .eqS _ _ a b | .mx a b | .mn a b | .app _ _ _ a b | .cpy _ _ a b | .mks _ _ _ _ a b => jv3 a ++ jv3 b
 | .sls _ _ x lo hi | .sst x lo hi | .sla _ _ x lo hi => jv3 x ++ (kN9 lo ++ kN9 hi)
 | .bld _ ps => QW (kT ps)
 | .bsl _ _ _ _ l | .call _ _ l | .clo _ l => QW l
 | .callv _ x l => jv3 x ++ QW l
 | .prm _ _ _ l => QW l
 | .callK _ _ l => QW l
 | .callC _ l => QW l
 | .callN _ _ l => QW l
 | .callR _ _ l => QW l
def qd : M -> Bool
 | .alloc _ | .nilS .. | .box .. | .st .. | .app .. | .cpy .. | .mks .. | .mv true _ | .call true _ _ | .callv true _ _ | .sls true .. => true
 | .bsl (some _) .. => true
 | .prm true _ _ _ | .prm false true _ _ | .callK .. | .callN .. => true
 | _ => false
def ndM : M -> Bool
 | .prm true _ _ _ => true
 | _ => false
def YI : List Nat -> Nat -> Bool
 | [], _ => false
 | s :: l, t => match s == t with | true => true | false => YI l t
def js9 : Option (Nat × Bool) -> Nat -> Bool
 | none, _ => false
 | some (s, _), t => s == t
def zy (a : O) : Option Nat -> Bool
 | none => false
 | some d => bO (YI (Jq a.m) d) (bO (js9 a.g d) (match a.dst with | some d' => d' == d | none => false))
def jA9 : M -> Bool
 | .mv false _ | .pick .. | .fld .. | .ixa .. | .part .. | .ixv .. | .sidx .. | .bld .. | .bsl none .. | .bin .. | .cat .. | .eqb .. | .eqS .. | .not _ | .neg .. | .conv .. | .cvw .. | .mx .. | .mn .. | .clo .. | .sst .. | .sla .. | .ext .. | .chk _ | .nilF .. | .callC .. | .sls false .. => true
 | _ => false
def QB (o : O) : Option (List Nat) := match jA9 o.m with
 | true => some []
 | false => match o.m with
   | .ld .. | .ixs .. | .len .. => o.fp
   | .callR l _ _ => some l
   | _ => none
def Yw (o : O) : Option (List Nat) := match o.m with
 | .st .. | .app .. | .alloc _ | .callN .. => o.fp
 | .callK l _ _ => some l
 | _ => none
def ki7 : List Nat -> List Nat -> Bool
 | [], _ => false
 | x :: l, r => bO (YI r x) (ki7 l r)
def Zx (a e : O) : Bool := match QB a, Yw e with
 | some [], _ => false
 | some l, some r => ki7 l r
 | _, _ => true
def jx8 (a b : O) : Bool := bO (zy a b.dst) (bO (zy b a.dst) (bO (bA (qd a.m) (bO (qd b.m) (Zx b a))) (bA (qd b.m) (bO (qd a.m) (Zx a b)))))
def kJ5 (l : List Nat) (x : Nat) : List Nat := match YI l x with | true => l | false => x :: l
def js0 : List Nat -> List Nat -> List Nat
 | l, [] => l
 | l, x :: r => js0 (kJ5 l x) r
def jq9 : List (List Nat) -> Nat -> List Nat
 | [], _ => []
 | l :: _, 0 => l
 | _ :: r, n + 1 => jq9 r n
def jN0 (acc : List (List Nat)) : List Edge -> List Nat
 | [] => []
 | e :: es => match Region.binds .any e with
   | true => js0 (kJ5 (jN0 acc es) e.on) (jq9 acc e.on)
   | false => jN0 acc es
def xL : List D -> Bool
 | [.bsl _ _ _ _] => false
 | _ => true
def kd8 : List Nat -> List Nat -> Bool
 | [], [] => true
 | x :: l, y :: r => bA (x == y) (kd8 l r)
 | _, _ => false
def JC (b a : O) : Bool := match b.m, a.m, b.g, a.g, b.fp, a.fp with
 | .alloc z, .alloc z', none, none, some l, some l' => bA (xL z) (bA (xL z') (bA (kd8 l l') (bA (bN (zy a b.dst)) (bN (zy b a.dst)))))
 | .callN _ _ _, .alloc z', none, none, some l, some l' => bA (xL z') (bA (kd8 l l') (bA (bN (zy a b.dst)) (bN (zy b a.dst))))
 | _, _, _, _, _, _ => false
def Ks (an : List Nat) (a : O) : Nat -> List O -> Bool
 | _, [] => true
 | i, [b] => match jx8 a b with | true => bO (YI an i) (JC b a) | false => true
 | i, b :: l => bA (match jx8 a b with | true => YI an i | false => true) (Ks an a (i + 1) l)
def KX (g : Option (Nat × Bool)) : List O -> Bool
 | [] => true
 | b :: l => bA (match b.dst with | some d => bN (js9 g d) | none => true) (KX g l)
def VY : List (List Nat) -> List O -> List Oper -> List O -> Bool
 | _, _, [], [] => true
 | acc, done, o :: os, a :: as => bA (Ks (jN0 acc o.after.toList) a 0 done) (bA (bN (ndM a.m)) (bA (KX a.g (a :: as)) (VY (acc ++ [jN0 acc o.after.toList]) (done ++ [a]) os as)))
 | _, _, _, _ => false
def kk4 (i : Nat) : List Edge -> Bool
 | [] => true
 | e :: es => bA (match Region.binds .any e with | true => Nat.blt e.on i | false => true) (kk4 i es)
def jE4 : Nat -> List Oper -> Bool
 | _, [] => true
 | i, o :: os => bA (kk4 i o.after.toList) (jE4 (i + 1) os)
def ke (P : Program) (nt : Nat) : Code -> C -> Option C
 | .skip, _ => some .skip
 | .region _ ops d, .reg _ h _ => match v8 P nt ops ops.toList h with
   | some l => match bO (bN d) (bA (VY [] [] ops.toList h) (jE4 0 ops.toList)) with
     | true => some (.reg d l none)
     | false => none
   | none => none
 | .seq a b, .seq ha hb => match ke P nt a ha, ke P nt b hb with | some x, some y => some (.seq x y) | _, _ => none
 | .cond c a b, .ite _ ha hb => match qm P 0 c, ke P nt a ha, ke P nt b hb with | some c', some x, some y => some (.ite c' x y) | _, _, _ => none
 | .block id c, .blk _ h => (ke P nt c h).map (.blk id)
 | .loop c, .loop h => (ke P nt c h).map .loop
 | .rangeFunc g ps a b, .rangef _ _ ha hb => match qm P 0 g, ke P nt a ha, ke P nt b hb with | some x, some a', some b' => if ps.toList.all (fun p => decide (p < nt)) /\ ps.toList.Nodup then some (.rangef x ps.toList a' b') else none | _, _, _ => none
 | .exit id, _ => some (.exit id)
 | .ret, _ => some .ret
 | .label _, _ => some .skip
 | .scope c, h => ke P nt c h
 | _, _ => none
def kA9 (P : Program) (r : ResultVar) : Option R :=
 match r with
 | .tmp t => some (.t t)
 | .cell s t => (ve P t).map (.cell s)
def yv (P : Program) : List ResultVar -> Option (List R)
 | [] => some []
 | r :: rs => match kA9 P r, yv P rs with | some a, some l => some (a :: l) | _, _ => none
end Go.AM
