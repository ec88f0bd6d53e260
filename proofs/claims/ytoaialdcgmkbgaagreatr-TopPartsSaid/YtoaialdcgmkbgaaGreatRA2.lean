import Derived.WalkKit

set_option linter.all false
namespace Go.AM
inductive D where
 | int (k : IntKind) (n : Int)
 | bool (b : Bool)
 | str (s : List UInt8)
 | agg (l : List D)
 | tup (l : List D)
 | ls (sz : Nat) (l : List D)
 | mp (ks vs : List D)
 | fn (f : Nat) (caps : List D)
 | nil
 | box (k off : Nat)
 | boxi (k off : Nat)
 | bsl (k base sz len : Nat)
 | own (k ver : Nat)
 | ownm (k ver : Nat)
 | el (sz : Nat) (l : List D) (i off : Nat)
 | elo (k ver sz i off : Nat)
 | glob (g off : Nat)
 | ifc (nil : Bool)
 | yld (k : Nat)
 | osl (k ver sz off len : Nat)
 | any
 deriving Inhabited
inductive CK where
 | i (k : IntKind)
 | b
 | s
inductive X where
 | t (s : Nat)
 | c (d : D)
inductive Pr where
 | lkp (t : TypeId) (ok : Bool)
 | upd (t : TypeId)
 | mkm (t : TypeId)
 | lenm (t : TypeId)
 | delm (t u : TypeId)
 | rng (t : TypeId)
 | nxt (b : Bool)
 | ent
 | capS (t : TypeId)
 | clr (t : TypeId)
 | eqn (neg : Bool) (t : TypeId)
 | sli (t : TypeId)
 | mkd (t : TypeId)
 | pan (t : TypeId)
 | ifc (t : TypeId)
 | ilk (neg : Bool) (t u : TypeId)
 | alc (t : TypeId)
 | blt (t : TypeId) (i : Nat)
 | ins (t : TypeId)
 | aps (t u : TypeId)
 | yld (ts : List TypeId)
 | sub (t : TypeId) (lo hi : Bool)
 | trc (t : TypeId)
 | clp (t : TypeId)
 | tdv (rem : Bool) (t u : TypeId)
inductive M where
 | mv (fz : Bool) (x : X)
 | pick (c a b : X)
 | alloc (z : List D)
 | box (isA : Bool) (x : X)
 | ld (n : Option Nat) (x : X)
 | st (n : Option Nat) (p x : X)
 | fld (off : Nat) (x : X)
 | ixs (sz : Nat) (x i : X)
 | ixa (len sz : Nat) (x i : X)
 | part (off : Nat) (n : Option Nat) (x : X)
 | ixv (len sz : Nat) (n : Option Nat) (x i : X)
 | sidx (x i : X)
 | bld (z : List D) (parts : List (Nat × Option Nat × X))
 | bsl (mode : Option Bool) (e : TypeId) (sz : Nat) (n : Option Nat) (xs : List X)
 | bin (op : BinOp) (k : IntKind) (x y : X)
 | cat (x y : X)
 | eqb (neg str : Bool) (x y : X)
 | eqS (neg : Bool) (ks : List CK) (x y : X)
 | not (x : X)
 | neg (k : IntKind) (x : X)
 | conv (k : IntKind) (x : X)
 | cvw (k : IntKind) (x : X)
 | b2s (x : X)
 | len (str : Bool) (x : X)
 | mx (x y : X)
 | mn (x y : X)
 | call (eff : Bool) (f : Nat) (xs : List X)
 | callv (eff : Bool) (x : X) (xs : List X)
 | clo (f : Nat) (xs : List X)
 | nilS (e : TypeId) (sz : Nat)
 | nilF (e : TypeId) (sz : Nat)
 | mks (e : TypeId) (sz : Nat) (n : Option Nat) (z : List D) (l c : X)
 | app (e : TypeId) (sz bytes : Nat) (x y : X)
 | cpy (e : TypeId) (sz : Nat) (x y : X)
 | sls (eff : Bool) (sz : Nat) (x : X) (lo hi : Option X)
 | sst (x : X) (lo hi : Option X)
 | sla (len sz : Nat) (x : X) (lo hi : Option X)
 | ext (x : X) (i : Nat)
 | chk (x : X)
 | prm (nd eff : Bool) (p : Pr) (xs : List X)
 | callK (l : List Nat) (f : Nat) (xs : List X)
 | callC (f : Nat) (xs : List X)
 | callN (n f : Nat) (xs : List X)
 | callR (l : List Nat) (f : Nat) (xs : List X)
structure O where
 dst : Option Nat
 g : Option (Nat × Bool)
 m : M
 fp : Option (List Nat)
def o1 (d : Nat) (m : M) : O := ⟨some d, none, m, none⟩
def o0 (m : M) : O := ⟨none, none, m, none⟩
def og (d s : Nat) (b : Bool) (m : M) : O := ⟨some d, some (s, b), m, none⟩
theorem zla {α : Type} (l : List α) : List.append [] l = l := rfl
theorem zlb {α : Type} (a : α) (l m : List α) : List.append (a :: l) m = a :: List.append l m := rfl
theorem zlc {α : Type} (l : List α) : [] ++ l = l := rfl
theorem zld {α : Type} (a : α) (l m : List α) : a :: l ++ m = a :: (l ++ m) := rfl
theorem zca {α : Type} (a b : α) : cond true a b = a := rfl
theorem zcb {α : Type} (a b : α) : cond false a b = b := rfl
inductive C where
 | skip
 | reg (draw : Bool) (ops : List O) (keep : Option (List Nat))
 | seq (a b : C)
 | ite (x : X) (a b : C)
 | blk (id : Nat) (c : C)
 | loop (c : C)
 | exit (id : Nat)
 | ret
 | rangef (x : X) (ps : List Nat) (a b : C)
def JD : List D -> List D
 | [.bsl _ _ sz _] => [.ls sz []]
 | z => z
def M.bare : M -> M
 | .alloc z => .alloc (JD z)
 | .mv _ x => .mv false x
 | .bsl _ e sz n xs => .bsl none e sz n xs
 | .call _ f xs => .call false f xs
 | .callv _ x xs => .callv false x xs
 | .sls _ sz x lo hi => .sls false sz x lo hi
 | .prm _ _ p xs => .prm false false p xs
 | .callK _ f xs => .call false f xs
 | .callC f xs => .call false f xs
 | .callN _ f xs => .call false f xs
 | .callR _ f xs => .call false f xs
 | .nilF e sz => .nilS e sz
 | .cvw k x => .conv k x
 | m => m
def O.bare : O -> O
 | ⟨d, g, m, _⟩ => ⟨d, g, m.bare, none⟩
def xS : List O -> List O
 | [] => []
 | o :: os => o.bare :: xS os
def C.bare : C -> C
 | .reg d ops _ => .reg d (xS ops) none
 | .seq a b => .seq a.bare b.bare
 | .ite x a b => .ite x a.bare b.bare
 | .blk id c => .blk id c.bare
 | .loop c => .loop c.bare
 | .rangef x ps a b => .rangef x ps a.bare b.bare
 | c => c
inductive Ex where
 | nrm
 | exit (id : Nat)
 | ret
structure Gh where
 m : Nat
 es : Array MapEntry
 clock : Nat
inductive Ent where
 | cells (l : List D)
 | arr (e : TypeId) (sz ver : Nat) (rows : List D)
 | gone
 | map (ks vs : List D)
 | iter (cur : Option (D × D)) (ks vs : List D)
 | mapx (g : Gh) (ks vs : List D)
 | ito (g : Gh) (seen : Array Nat) (cur : Option (D × D)) (ks vs : List D)
 | tcells (T : TypeId) (l : List D)
 | fresh
 | obj (o : Obj)
abbrev G := List (Nat × Bool)
abbrev Env := List (Nat × G × D)
structure St where
 env : Env
 bx : List Ent
def get : Env -> Nat -> Option (G × D)
 | [], _ => none
 | (s, g, d) :: r, t => bif s == t then some (g, d) else get r t
/-! Bool's own words, by cases. -/
def bA : Bool -> Bool -> Bool | true, b => b | false, _ => false
def bO : Bool -> Bool -> Bool | true, _ => true | false, b => b
def bN : Bool -> Bool | true => false | false => true
def bE : Bool -> Bool -> Bool | true, b => b | false, b => bN b
def memG : G -> Nat -> Bool -> Bool
 | [], _, _ => false
 | (s, b) :: r, t, c => bO (bA (s == t) (bE b c)) (memG r t c)
def subG : G -> G -> Bool
 | [], _ => true
 | (s, b) :: r, g => bA (memG g s b) (subG r g)
def jV : G -> Nat -> Bool
 | [], _ => true
 | (s, _) :: r, t => bA (bN (s == t)) (jV r t)
def jT (g : G) : Env -> Nat -> Bool
 | [], _ => false
 | (s, _, _) :: r, t => bif s == t then true else bA (jV g s) (jT g r t)
def rd (env : Env) (g : G) (s : Nat) : Option D :=
 match get env s with
 | none => none
 | some ([], d) => some d
 | some (h :: t, d) => bif bA (subG (h :: t) g) (jT (h :: t) env s) then some d else none
def hyps (env : Env) (g0 : G) : G -> List Prop
 | [] => []
 | (s, pol) :: r => match rd env g0 s with
   | some (.bool b) => (b = pol) :: hyps env g0 r
   | _ => hyps env g0 r
def j7 : List Prop -> Prop
 | [] => False
 | p :: ps => ¬ p \/ j7 ps
def allP : List Prop -> Prop -> Prop
 | [], k => k
 | p :: ps, k => p /\ allP ps k
def impP : List Prop -> Prop -> Prop
 | [], k => k
 | p :: ps, k => p -> impP ps k
def gob (hs : List Prop) : List Prop -> List Prop
 | [] => []
 | p :: ps => impP hs p :: gob hs ps
def evX (env : Env) (g : G) : X -> Option D
 | .c d => some d
 | .t s => rd env g s
def evL (env : Env) (g : G) : List X -> Option (List D)
 | [] => some []
 | x :: xs =>
   match evX env g x, evL env g xs with
   | some d, some l => some (d :: l)
   | _, _ => none
def nth : List D -> Nat -> Option D
 | [], _ => none
 | d :: _, 0 => some d
 | _ :: l, n + 1 => nth l n
def setN : List D -> Nat -> D -> Option (List D)
 | [], _, _ => none
 | _ :: l, 0, d => some (d :: l)
 | x :: l, n + 1, d => match setN l n d with | some l' => some (x :: l') | none => none
def setL : List D -> Nat -> List D -> Option (List D)
 | l, _, [] => some l
 | l, o, d :: ds => match setN l o d with | some l' => setL l' (o + 1) ds | none => none
def j8 : List D -> Nat -> Option (List D)
 | _, 0 => some []
 | [], _ + 1 => none
 | d :: l, n + 1 => match j8 l n with | some r => some (d :: r) | none => none
def kh : List D -> Nat -> List D
 | l, 0 => l
 | [], _ + 1 => []
 | _ :: l, n + 1 => kh l n
def j1 (l : List D) (off : Nat) : Option Nat -> Option D
 | none => nth l off
 | some n => match j8 (kh l off) n with | some r => some (.agg r) | none => none
def lenB : List D -> Nat -> Bool
 | [], 0 => true
 | [], _ + 1 => false
 | _ :: l, n + 1 => lenB l n
 | _ :: _, 0 => false
def j3 : D -> Bool
 | .agg _ | .tup _ | .any => false
 | _ => true
def jX (d : D) (off : Nat) (n : Option Nat) : Option D :=
 match d with
 | .agg l => j1 l off n
 | d => match off, n, j3 d with | 0, none, true => some d | _, _, _ => none
def jU (n : Option Nat) (d : D) : Option (List D) :=
 match n with
 | none => bif j3 d then some [d] else none
 | some n => match d with
   | .agg l => bif lenB l n then some l else none
   | _ => none
def jW (n : Option Nat) : List D -> Bool
 | [] => true
 | d :: l => match jU n d with | some _ => jW n l | none => false
def kg : List D -> List (Nat × Option Nat × X) -> List D -> Option (List D)
 | z, [], [] => some z
 | z, (off, n, _) :: r, d :: ds =>
   match jU n d with
   | some c => match setL z off c with | some z' => kg z' r ds | none => none
   | none => none
 | _, _, _ => none
def jR : List (Nat × Option Nat × X) -> List X
 | [] => []
 | (_, _, x) :: r => x :: jR r
def entN : List Ent -> Nat -> Option Ent
 | [], _ => none
 | e :: _, 0 => some e
 | _ :: l, n + 1 => entN l n
def setE : List Ent -> Nat -> Ent -> List Ent
 | [], _, _ => []
 | _ :: l, 0, e => e :: l
 | x :: l, n + 1, e => x :: setE l n e
def jZ : List Ent -> Nat
 | [] => 0
 | _ :: l => jZ l + 1
def addE : List Ent -> Ent -> List Ent
 | [], e => [e]
 | x :: l, e => x :: addE l e
def kEq : IntKind -> IntKind -> Bool
 | .i8, .i8 | .i16, .i16 | .i32, .i32 | .i64, .i64 | .u8, .u8 | .u16, .u16 | .u32, .u32 | .u64, .u64 => true
 | _, _ => false
def fits : IntKind -> Int -> Prop
 | .i8, n => -128 <= n /\ n <= 127
 | .i16, n => -32768 <= n /\ n <= 32767
 | .i32, n => -2147483648 <= n /\ n <= 2147483647
 | .i64, n => -9223372036854775808 <= n /\ n <= 9223372036854775807
 | .u8, n => 0 <= n /\ n <= 255
 | .u16, n => 0 <= n /\ n <= 65535
 | .u32, n => 0 <= n /\ n <= 4294967295
 | .u64, n => 0 <= n /\ n <= 18446744073709551615
inductive Res where
 | bad
 | ok (p : List Prop) (d : D) (bx : List Ent)
 | call (p : List Prop) (eff : Bool) (f : Nat) (ds : List D)
 | row (p : List Prop) (l : List D) (i off : Nat) (n : Option Nat)
 | arr (p : List Prop) (l : List D) (i : Nat) (n : Option Nat)
 | ask (p : List Prop) (Q : D -> Prop)
 | put (p : List Prop) (Q : List D -> Prop) (d : D) (mk : List D -> List Ent)
 | prm (p : List Prop) (eff : Bool) (q : Pr) (ds : List D)
 | all (p : List Prop) (q : Pr) (ds : List D)
 | callK (p : List Prop) (l : List Nat) (f : Nat) (ds : List D)
 | callC (p : List Prop) (f : Nat) (ds : List D)
 | callN (p : List Prop) (n f : Nat) (ds : List D)
 | callR (p : List Prop) (l : List Nat) (f : Nat) (ds : List D)
def remP : IntKind -> Int -> Int -> Prop
 | .i8, _, y => 0 < y
 | .i16, x, y => 0 <= x /\ 0 < y
 | .i32, x, y => 0 <= x /\ 0 < y
 | .i64, x, y => 0 <= x /\ 0 < y
 | .u8, x, y => 0 <= x /\ 0 < y
 | .u16, x, y => 0 <= x /\ 0 < y
 | .u32, x, y => 0 <= x /\ 0 < y
 | .u64, x, y => 0 <= x /\ 0 < y
def remI : IntKind -> Int -> Int -> Int
 | .i8, x, y => Int.tmod x y
 | .i16, x, y => x % y
 | .i32, x, y => x % y
 | .i64, x, y => x % y
 | .u8, x, y => x % y
 | .u16, x, y => x % y
 | .u32, x, y => x % y
 | .u64, x, y => x % y
theorem remI_ok {k : IntKind} {x y : Int} (h : remP k x y) : 0 < y /\ Int.tmod x y = remI k x y := by
 cases k <;> simp only [remP] at h <;> simp only [remI]
 case i8 => exact ⟨h, trivial⟩
 all_goals exact ⟨h.2, Int.tmod_eq_emod_of_nonneg h.1⟩
def binI (op : BinOp) (k : IntKind) (x y : Int) (bx : List Ent) : Res :=
 match op with
 | .add => .ok [fits k (x + y)] (.int k (x + y)) bx
 | .sub => .ok [fits k (x - y)] (.int k (x - y)) bx
 | .mul => .ok [fits k (x * y)] (.int k (x * y)) bx
 | .quo => .ok [0 <= x /\ 0 < y /\ fits k (x / y)] (.int k (x / y)) bx
 | .rem => .ok [remP k x y] (.int k (remI k x y)) bx
 | .shr => .ok [0 <= y /\ y < k.bits] (.int k (x / 2 ^ y.toNat)) bx
 | .shl => .ok [0 <= y /\ y < k.bits /\ fits k (x * 2 ^ y.toNat)] (.int k (x * 2 ^ y.toNat)) bx
 | .and => .ok [0 <= x /\ 0 <= y /\ fits k x /\ fits k y] (.int k (Int.ofNat (x.toNat &&& y.toNat))) bx
 | .or => .ok [0 <= x /\ 0 <= y /\ fits k x /\ fits k y] (.int k (Int.ofNat (x.toNat ||| y.toNat))) bx
 | .xor => .ok [0 <= x /\ 0 <= y /\ fits k x /\ fits k y] (.int k (Int.ofNat (x.toNat ^^^ y.toNat))) bx
 | .andNot => .ok [0 <= x /\ 0 <= y /\ fits k x /\ fits k y] (.int k (Int.ofNat ((x.toNat ^^^ y.toNat) &&& x.toNat))) bx
 | .eql => .ok [] (.bool (decide (x = y))) bx
 | .neq => .ok [] (.bool (!decide (x = y))) bx
 | .lss => .ok [] (.bool (decide (x < y))) bx
 | .leq => .ok [] (.bool (decide (x <= y))) bx
 | .gtr => .ok [] (.bool (decide (y < x))) bx
 | .geq => .ok [] (.bool (decide (y <= x))) bx
def ke : BinOp -> Bool
 | .shr | .shl => true
 | _ => false
def eqC : CK -> D -> D -> Option Bool
 | .i k, .int k1 x, .int k2 y => bif bA (kEq k k1) (kEq k k2) then some (decide (x = y)) else none
 | .b, .bool x, .bool y => some (x == y)
 | .s, .str x, .str y => some (x == y)
 | _, _, _ => none
def j6 : Bool -> List CK -> List D -> List D -> Option Bool
 | a, [], [], [] => some a
 | a, k :: ks, x :: l, y :: r => match eqC k x y with
   | some b => match j6 b ks l r with | some c => some (a && c) | none => none
   | none => none
 | _, _, _, _ => none
def eqCs : List CK -> List D -> List D -> Option Bool
 | [], [], [] => some true
 | k :: ks, x :: l, y :: r => match eqC k x y with | some a => j6 a ks l r | none => none
 | _, _, _ => none
def negB : Bool -> Bool -> Bool
 | true, b => !b
 | false, b => b
def scal : D -> Bool
 | .int .. | .bool _ | .str _ => true
 | _ => false
def jE3 : List D -> Bool
 | [] => true
 | d :: l => scal d && jE3 l
def Qv : D -> Bool
 | .agg l | .tup l => jE3 l
 | d => scal d
mutual
def closed : D -> Bool
 | .int .. | .bool _ | .str _ | .ls .. | .mp .. | .nil | .glob .. | .ifc _ => true
 | .agg l | .tup l | .fn _ l => jy l
 | _ => false
def jy : List D -> Bool
 | [] => true
 | d :: l => bA (closed d) (jy l)
end
mutual
def lend (bx : List Ent) : D -> Option (List Prop × Bool × D)
 | .int k n => some ([], false, .int k n)
 | .bool b => some ([], false, .bool b)
 | .str s => some ([], false, .str s)
 | .ls sz l => some ([], false, .ls sz l)
 | .mp ks vs => some ([], false, .mp ks vs)
 | .nil => some ([], false, .nil)
 | .glob g off => some ([], false, .glob g off)
 | .ifc b => some ([], false, .ifc b)
 | .own k ver => match entN bx k with
   | some (.arr _ sz ver' rows) => some ([ver = ver'], true, .ls sz rows)
   | _ => none
 | .ownm k ver => match entN bx k with
   | some (.map ks vs) => some ([ver = 0, jy vs = true], true, .mp ks vs)
   | _ => none
 | .osl k ver sz off len => match entN bx k with
   | some (.arr _ sz' ver' rows) => some ([ver = ver' /\ sz = sz' /\ off + len <= rows.length], true, .ls sz ((rows.take (off + len)).drop off))
   | _ => none
 | .agg l => match j5 bx l with | some (p, o, l') => some (p, o, .agg l') | none => none
 | .tup l => match j5 bx l with | some (p, o, l') => some (p, o, .tup l') | none => none
 | .fn f l => match j5 bx l with | some (p, o, l') => some (p, o, .fn f l') | none => none
 | _ => none
def j5 (bx : List Ent) : List D -> Option (List Prop × Bool × List D)
 | [] => some ([], false, [])
 | d :: l => match lend bx d with
   | some (p, o, d') => match j5 bx l with
     | some (q, o', l') => some (p ++ q, (match o with | true => true | false => o'), d' :: l')
     | none => none
   | none => none
end
mutual
def frz (bx : List Ent) : D -> Option (List Prop × D × List Ent)
 | .int k n => some ([], .int k n, bx)
 | .bool b => some ([], .bool b, bx)
 | .str s => some ([], .str s, bx)
 | .ls sz l => some ([], .ls sz l, bx)
 | .mp ks vs => some ([], .mp ks vs, bx)
 | .nil => some ([], .nil, bx)
 | .glob g off => some ([], .glob g off, bx)
 | .ifc b => some ([], .ifc b, bx)
 | .own k ver => match entN bx k with
   | some (.arr _ sz ver' rows) => some ([ver = ver'], .ls sz rows, setE bx k .gone)
   | _ => none
 | .ownm k ver => match entN bx k with
   | some (.map ks vs) => some ([ver = 0, jy vs = true], .mp ks vs, setE bx k .gone)
   | _ => none
 | .agg l => match frzL bx l with | some (p, l', bx') => some (p, .agg l', bx') | none => none
 | .tup l => match frzL bx l with | some (p, l', bx') => some (p, .tup l', bx') | none => none
 | .fn f l => match frzL bx l with | some (p, l', bx') => some (p, .fn f l', bx') | none => none
 | _ => none
def frzL (bx : List Ent) : List D -> Option (List Prop × List D × List Ent)
 | [] => some ([], [], bx)
 | d :: l => match frz bx d with
   | some (p, d', bx') => match frzL bx' l with
     | some (q, l', bx'') => some (p ++ q, d' :: l', bx'')
     | none => none
   | none => none
end
def jy9 (r : D) (off : Nat) (n : Option Nat) (d : D) : Option D :=
 match r with
 | .agg l => match jU n d with
   | some c => match setL l off c with | some l' => some (.agg l') | none => none
   | none => none
 | r => match off, n, j3 r, j3 d with | 0, none, true, true => some d | _, _, _, _ => none
def jC5 (rows : List D) (i off : Nat) (n : Option Nat) (d : D) (rows' : List D) : Prop :=
 ∃ r r', rows[i]? = some r /\ jy9 r off n d = some r' /\ rows' = rows.set i r'
def yi (s : List UInt8) : List D := s.map fun b => .int .u8 b.toNat
def IsStr (l : List D) (d : D) : Prop := ∃ s, l = yi s /\ d = .str s
def jM (gt : Nat -> Option (List D)) (bx : List Ent) (n : Option Nat) : Option D -> Res
 | some (.box k off) => match entN bx k with
   | some (.cells l) => match j1 l off n with
     | some d => .ok [] d bx
     | none => .bad
   | _ => .bad
 | some (.boxi k off) => match entN bx k with
   | some (.cells l) => .arr [] l off n
   | _ => .bad
 | some (.glob g off) => match gt g with
   | some l => .arr [] l off n
   | none => .bad
 | some (.el _ l i off) => .row [] l i off n
 | some (.elo k ver sz i off) => match entN bx k with
   | some (.arr _ sz' ver' rows) => .row [ver = ver' /\ sz = sz'] rows i off n
   | _ => .bad
 | _ => .bad
def jS (bx : List Ent) (n : Option Nat) : Option D -> Option D -> Res
 | some (.box k off), some d => match entN bx k with
   | some (.cells l) => match jU n d with
     | some c => match setL l off c with
       | some l' => .ok [] .any (setE bx k (.cells l'))
       | none => .bad
     | none => .bad
   | _ => .bad
 | some (.boxi k off), some d => match entN bx k with
   | some (.cells l) => match jU n d with
     | some c => .put [] (fun l' => setL l off c = some l') .any (fun l' => setE bx k (.cells l'))
     | none => .bad
   | _ => .bad
 | some (.elo k ver sz i off), some d => match entN bx k with
   | some (.arr e sz' ver' rows) => match closed d with
     | true => .put [ver = ver' /\ sz = sz'] (jC5 rows i off n d) .any (fun rows' => setE bx k (.arr e sz' ver' rows'))
     | false => .bad
   | _ => .bad
 | _, _ => .bad
def jz (bx : List Ent) (sz : Nat) : Option D -> Option D -> Res
 | some (.ls sz' l), some (.int _ n) => .ok [sz = sz' /\ 0 <= n /\ n < l.length] (.el sz' l n.toNat 0) bx
 | some (.own k ver), some (.int _ n) => match entN bx k with
   | some (.arr _ sz' ver' rows) => .ok [ver = ver' /\ sz = sz' /\ 0 <= n /\ n < rows.length] (.elo k ver sz n.toNat 0) bx
   | _ => .bad
 | some (.bsl k base sz' len), some (.int _ n) => .ok [sz = sz' /\ 0 <= n /\ n < len] (.boxi k (base + n.toNat * sz)) bx
 | _, _ => .bad
def jA (bx : List Ent) (len sz : Nat) : Option D -> Option D -> Res
 | some (.box k off), some (.int _ n) => .ok [0 <= n /\ n < len] (.boxi k (off + n.toNat * sz)) bx
 | some (.boxi k off), some (.int _ n) => .ok [0 <= n /\ n < len] (.boxi k (off + n.toNat * sz)) bx
 | some (.glob g off), some (.int _ n) => .ok [0 <= n /\ n < len] (.glob g (off + n.toNat * sz)) bx
 | some (.el sz' l i off), some (.int _ n) => .ok [0 <= n /\ n < len] (.el sz' l i (off + n.toNat * sz)) bx
 | some (.elo k ver sz' i off), some (.int _ n) => .ok [0 <= n /\ n < len] (.elo k ver sz' i (off + n.toNat * sz)) bx
 | _, _ => .bad
def jC (bx : List Ent) : Bool -> Option D -> Res
 | false, some (.ls _ l) => .ok [] (.int .i64 l.length) bx
 | true, some (.str s) => .ok [] (.int .i64 s.length) bx
 | false, some (.bsl _ _ _ n) => .ok [] (.int .i64 n) bx
 | false, some (.own k ver) => match entN bx k with
   | some (.arr _ _ ver' rows) => .ok [ver = ver'] (.int .i64 rows.length) bx
   | _ => .bad
 | _, _ => .bad
def jD (bx : List Ent) (e : TypeId) (sz by_ : Nat) : Option D -> Option D -> Res
 | some (.own k ver), some (.ls sz' m) => match entN bx k with
   | some (.arr e' sz'' ver' rows) => .ok [ver = ver' /\ e = e' /\ sz = sz' /\ sz = sz'' /\ (rows.length + m.length) * by_ <= 140737488355328 /\ rows.length + m.length <= 140737488355328] (.own k (ver + 1)) (setE bx k (.arr e sz (ver + 1) (rows ++ m)))
   | _ => .bad
 | some (.own k ver), some (.own k2 ver2) => match entN bx k, entN bx k2 with
   | some (.arr e' sz'' ver' rows), some (.arr _ sz' ver2' m) => match k == k2 with
     | false => .ok [ver = ver' /\ ver2 = ver2' /\ e = e' /\ sz = sz' /\ sz = sz'' /\ (rows.length + m.length) * by_ <= 140737488355328 /\ rows.length + m.length <= 140737488355328] (.own k (ver + 1)) (setE bx k (.arr e sz (ver + 1) (rows ++ m)))
     | true => .bad
   | _, _ => .bad
 | _, _ => .bad
def minN (a b : Nat) : Nat := if a <= b then a else b
def over (rows m : List D) : List D := (m.take rows.length) ++ rows.drop (minN m.length rows.length)
def jE (bx : List Ent) (e : TypeId) (sz : Nat) : Option D -> Option D -> Res
 | some (.own k ver), some (.ls sz' m) => match entN bx k with
   | some (.arr e' sz'' ver' rows) => .ok [ver = ver' /\ e = e' /\ sz = sz' /\ sz = sz''] (.int .i64 (minN m.length rows.length)) (setE bx k (.arr e sz ver (over rows m)))
   | _ => .bad
 | some (.own k ver), some (.own k2 ver2) => match entN bx k, entN bx k2 with
   | some (.arr e' sz'' ver' rows), some (.arr _ sz' ver2' m) => match k == k2 with
     | false => .ok [ver = ver' /\ ver2 = ver2' /\ e = e' /\ sz = sz' /\ sz = sz''] (.int .i64 (minN m.length rows.length)) (setE bx k (.arr e sz ver (over rows m)))
     | true => .bad
   | _, _ => .bad
 | some (.own k ver), some (.bsl k2 base sz2 len) => match entN bx k, entN bx k2 with
   | some (.arr e' sz'' ver' rows), some (.cells l) => match Nat.beq sz 1 with
     | true => .ok [ver = ver' /\ e = e' /\ sz2 = sz /\ sz = sz'' /\ base + len <= l.length /\ jy ((l.drop base).take len) = true] (.int .i64 (minN len rows.length)) (setE bx k (.arr e sz ver (over rows ((l.drop base).take len))))
     | false => .bad
   | _, _ => .bad
 | _, _ => .bad
def jm (env : Env) (g : G) (bx : List Ent) (s : Nat) : X -> X -> Res
 | .c (.bool true), b => match rd env g s, evX env ((s, false) :: g) b with
   | some (.bool c), some (.bool r) => .ok [] (.bool (c || r)) bx
   | _, _ => .bad
 | a, .c (.bool false) => match rd env g s, evX env ((s, true) :: g) a with
   | some (.bool c), some (.bool r) => .ok [] (.bool (c && r)) bx
   | _, _ => .bad
 | _, _ => .bad
def evB (env : Env) (g : G) (dflt : Int) : Option X -> Option Int
 | none => some dflt
 | some x => match evX env g x with | some (.int _ n) => some n | _ => none
def v8 (bx : List Ent) (lo : Option Int) (hi : Int -> Option Int) : Option D -> Res
 | some (.str s) => match lo, hi s.length with
   | some a, some b => .ok [0 <= a /\ a <= b /\ b <= s.length] (.str ((s.take b.toNat).drop a.toNat)) bx
   | _, _ => .bad
 | _ => .bad
def jB (bx : List Ent) (g : G) (eff : Bool) (sz : Nat) (lo : Option Int) (hi : Int -> Option Int) : Option D -> Res
 | some (.ls sz' l) => match lo, hi l.length with
   | some a, some b => .ok [sz = sz' /\ 0 <= a /\ a <= b /\ b <= l.length] (.ls sz ((l.take b.toNat).drop a.toNat)) bx
   | _, _ => .bad
 | some (.own k ver) => match eff, g, entN bx k with
   | true, [], some (.arr _ sz' ver' l) => match lo, hi l.length with
     | some a, some b => .ok [ver = ver' /\ sz = sz' /\ 0 <= a /\ a <= b /\ b <= l.length] (.ls sz ((l.take b.toNat).drop a.toNat)) (setE bx k .gone)
     | _, _ => .bad
   | _, _, _ => .bad
 | some (.bsl k base sz' len) => match lo, hi len with
   | some a, some b => .ok [sz = sz' /\ 0 <= a /\ a <= b /\ b <= len] (.bsl k (base + a.toNat * sz) sz (b - a).toNat) bx
   | _, _ => .bad
 | _ => .bad
def xc (bx : List Ent) (len sz : Nat) (lo : Option Int) (hi : Option Int) : Option D -> Res
 | some (.box k off) => match lo, hi with
   | some a, some b => .ok [0 <= a /\ a <= b /\ b <= len] (.bsl k (off + a.toNat * sz) sz (b - a).toNat) bx
   | _, _ => .bad
 | some (.boxi k off) => match lo, hi with
   | some a, some b => .ok [0 <= a /\ a <= b /\ b <= len] (.bsl k (off + a.toNat * sz) sz (b - a).toNat) bx
   | _, _ => .bad
 | _ => .bad
def j9 (env : Env) : G -> Bool
 | [] => true
 | [(s, _)] => match get env s with
   | some ([], .bool _) => true
   | _ => false
 | _ => false
def zRow (n : Option Nat) (z : List D) : Option D :=
 match n, z with
 | some _, z => some (.agg z)
 | none, [d] => some d
 | none, _ => none
def kj : D -> Bool
 | .box .. | .boxi .. | .el .. | .elo .. | .glob .. | .fn .. => true
 | _ => false
def jQ (gt : Nat -> Option (List D)) (m : M) (g : G) (env : Env) (bx : List Ent) : Res :=
 match m with
 | .mv fz x => match fz, g, evX env g x with
   | false, _, some d => .ok [] d bx
   | true, [], some d => match frz bx d with
     | some (q, d', bx') => .ok q d' bx'
     | none => .bad
   | _, _, _ => .bad
 | .pick (.t s) a b => jm env g bx s a b
 | .pick (.c _) _ _ => .bad
 | .alloc z => match g with
   | [] => match z with
     | [.bsl e _ sz _] => .ok [] (.box (jZ bx) 0) (addE (addE bx (.cells [.own (jZ bx + 1) 0])) (.arr e sz 0 []))
     | z => .ok [] (.box (jZ bx) 0) (addE bx (.cells z))
   | _ => .bad
 | .box isA x => match g with
   | [] => match isA, evX env [] x with
     | true, some (.agg l) => .ok [] (.box (jZ bx) 0) (addE bx (.cells l))
     | false, some d => bif j3 d then .ok [] (.box (jZ bx) 0) (addE bx (.cells [d])) else .bad
     | _, _ => .bad
   | _ => .bad
 | .ld n x => jM gt bx n (evX env g x)
 | .st n a x => match g with
   | [] => jS bx n (evX env [] a) (evX env [] x)
   | _ => .bad
 | .fld off x => match evX env g x with
   | some (.box k o) => .ok [] (.box k (o + off)) bx
   | some (.boxi k o) => .ok [] (.boxi k (o + off)) bx
   | some (.glob k o) => .ok [] (.glob k (o + off)) bx
   | some (.el sz l i o) => .ok [] (.el sz l i (o + off)) bx
   | some (.elo k v sz i o) => .ok [] (.elo k v sz i (o + off)) bx
   | _ => .bad
 | .ixs sz x i => jz bx sz (evX env g x) (evX env g i)
 | .ixa len sz x i => jA bx len sz (evX env g x) (evX env g i)
 | .part off n x => match evX env g x with
   | some (.agg l) => match j1 l off n with
     | some d' => .ok [] d' bx
     | none => .bad
   | _ => .bad
 | .ixv len sz n x i => match evX env g x, evX env g i with
   | some (.agg l), some (.int _ j) => .arr [0 <= j /\ j < len] l (j.toNat * sz) n
   | _, _ => .bad
 | .sidx x i => match evX env g x, evX env g i with
   | some (.str s), some (.int _ j) => .ok [0 <= j /\ j < s.length] (.int .u8 (s.getD j.toNat 0).toNat) bx
   | _, _ => .bad
 | .bld z parts => match evL env g (jR parts) with
   | some ds => match kg z parts ds with
     | some l => .ok [] (.agg l) bx
     | none => .bad
   | none => .bad
 | .bsl mode e sz n xs => match mode, g, evL env g xs with
   | none, _, some ds => match bA (jy ds) (jW n ds) with
     | true => .ok [] (.ls sz ds) bx
     | false => .bad
   | some false, [], some ds => match bA (jy ds) (jW n ds) with
     | true => .ok [] (.own (jZ bx) 1) (addE bx (.arr e sz 1 ds))
     | false => .bad
   | some true, [], some ds => match jW n ds, frzL bx ds with
     | true, some (q, ds', bx') => .ok q (.ls sz ds') bx'
     | _, _ => .bad
   | _, _, _ => .bad
 | .bin op k x y => match evX env g x, evX env g y with
   | some (.int k1 a), some (.int k2 b) => match kEq k k1, kEq k k2, ke op with
     | true, true, _ => binI op k a b bx
     | true, _, true => binI op k a b bx
     | _, _, _ => .bad
   | _, _ => .bad
 | .cat x y => match evX env g x, evX env g y with
   | some (.str a), some (.str b) => .ok [a.length + b.length < 9223372036854775808] (.str (a ++ b)) bx
   | _, _ => .bad
 | .eqb neg str x y => match str, evX env g x, evX env g y with
   | true, some (.str a), some (.str b) => .ok [] (.bool (negB neg (decide (a = b)))) bx
   | false, some (.bool a), some (.bool b) => .ok [] (.bool (negB neg (a == b))) bx
   | _, _, _ => .bad
 | .eqS neg ks x y => match evX env g x, evX env g y with
   | some (.agg a), some (.agg b) => match eqCs ks a b with
     | some e => .ok [] (.bool (negB neg e)) bx
     | none => .bad
   | _, _ => .bad
 | .not x => match evX env g x with | some (.bool b) => .ok [] (.bool (!b)) bx | _ => .bad
 | .neg k x => match evX env g x with | some (.int k1 n) => (match kEq k k1 with | true => .ok [fits k (-n)] (.int k (-n)) bx | false => .bad) | _ => .bad
 | .conv k x => match evX env g x with | some (.int _ n) => .ok [fits k n] (.int k n) bx | _ => .bad
 | .cvw k x => match evX env g x with | some (.int _ n) => .ok [] (.int k (k.wrap n)) bx | _ => .bad
 | .b2s x => match evX env g x with
   | some (.ls sz l) => .ask [sz = 1] (IsStr l)
   | some (.own k ver) => match entN bx k with
     | some (.arr _ sz ver' l) => .ask [sz = 1 /\ ver = ver'] (IsStr l)
     | _ => .bad
   | _ => .bad
 | .len str x => jC bx str (evX env g x)
 | .mx x y => match evX env g x, evX env g y with
   | some (.int k a), some (.int _ b) => .ok [] (.int k (max a b)) bx
   | _, _ => .bad
 | .mn x y => match evX env g x, evX env g y with
   | some (.int k a), some (.int _ b) => .ok [] (.int k (min a b)) bx
   | _, _ => .bad
 | .call eff f xs => match eff, g, evL env g xs with
   | false, _, some ds => .call [] false f ds
   | true, [], some ds => .call [] true f ds
   | _, _, _ => .bad
 | .callK l f xs => match g, evL env g xs with
   | [], some ds => .callK [] l f ds
   | _, _ => .bad
 | .callC f xs => match evL env g xs with
   | some ds => .callC [] f ds
   | none => .bad
 | .callN n f xs => match g, evL env g xs with
   | [], some ds => .callN [] n f ds
   | _, _ => .bad
 | .callR l f xs => match evL env g xs with
   | some ds => .callR [] l f ds
   | none => .bad
 | .callv eff x xs => match eff, g, evX env g x, evL env g xs with
   | false, _, some (.fn f caps), some ds => .call [] false f (List.append ds caps)
   | true, [], some (.fn f caps), some ds => .call [] true f (List.append ds caps)
   | _, _, _, _ => .bad
 | .clo f xs => match evL env g xs with
   | some ds => .ok [] (.fn f ds) bx
   | none => .bad
 | .nilF _ sz => .ok [] (.ls sz []) bx
 | .nilS e sz => match g with
   | [] => .ok [] (.own (jZ bx) 0) (addE bx (.arr e sz 0 []))
   | _ => .bad
 | .mks e sz n z l c => match g, zRow n z, evX env g l, evX env g c with
   | [], some r, some (.int _ a), some (.int _ b) => .ok [0 <= a /\ a <= b /\ b <= 4294967296] (.own (jZ bx) 1) (addE bx (.arr e sz 1 (List.replicate a.toNat r)))
   | _, _, _, _ => .bad
 | .app e sz by_ x y => match g with
   | [] => jD bx e sz by_ (evX env [] x) (evX env [] y)
   | _ => .bad
 | .cpy e sz x y => match g with
   | [] => jE bx e sz (evX env [] x) (evX env [] y)
   | _ => .bad
 | .sls eff sz x lo hi => jB bx g eff sz (evB env g 0 lo) (fun n => evB env g n hi) (evX env g x)
 | .sst x lo hi => v8 bx (evB env g 0 lo) (fun n => evB env g n hi) (evX env g x)
 | .sla len sz x lo hi => xc bx len sz (evB env g 0 lo) (evB env g len hi) (evX env g x)
 | .chk x => match evX env g x with
   | some d => match kj d with | true => .ok [] d bx | false => .bad
   | none => .bad
 | .prm nd eff p xs => match nd, eff, g, evL env g xs with
   | false, false, _, some ds => .prm [] false p ds
   | false, true, _, some ds => match j9 env g with | true => .prm [] true p ds | false => .bad
   | true, _, [], some ds => .all [] p ds
   | _, _, _, _ => .bad
 | .ext x i => match evX env g x with
   | some (.tup l) => match nth l i with | some d => .ok [] d bx | none => .bad
   | _ => .bad
def jN (env : Env) : Option (Nat × Bool) -> Option G
 | none => some []
 | some (s, pol) => match get env s with
   | some ([], .bool _) => some [(s, pol)]
   | some (h :: t, .bool _) => bif jT (h :: t) env s then some ((s, pol) :: h :: t) else none
   | _ => none
def jY (g : G) : Option Nat -> Bool
 | none => true
 | some s => jV g s
def jP (dst : Option Nat) : Option G -> Option G
 | none => none
 | some g => match jY g dst with | true => some g | false => none
def putE (dst : Option Nat) (g : G) (d : D) (env : Env) : Env :=
 match dst with
 | some s => (s, g, d) :: env
 | none => env
def memN : List Nat -> Nat -> Bool
 | [], _ => false
 | s :: l, t => bO (s == t) (memN l t)
def allN : List Nat -> List Nat -> Bool
 | [], _ => true
 | x :: l, r => bA (memN r x) (allN l r)
def km : Option D -> Option (List Nat)
 | some (.box k _) | some (.boxi k _) | some (.elo k _ _ _ _) | some (.own k _) | some (.bsl k _ _ _) => some [k]
 | some (.ls ..) | some (.glob ..) | some (.el ..) | some (.str _) => some []
 | _ => none
def newN : Nat -> Nat -> List Nat
 | _, 0 => []
 | s, n + 1 => s :: newN (s + 1) n
def foot (m : M) (g : G) (env : Env) (bx : List Ent) : Option (List Nat) :=
 match m with
 | .alloc z => match z with
   | [.bsl _ _ _ _] => some [jZ bx, jZ (addE bx .gone)]
   | _ => some [jZ bx]
 | .ld _ x | .ixs _ x _ | .len _ x => km (evX env g x)
 | .st _ a _ => km (evX env [] a)
 | .app _ _ _ x _ => km (evX env [] x)
 | .callN n _ _ => some (newN (jZ bx) n)
 | _ => none
def fpOk (fp : Option (List Nat)) (m : M) (g : G) (env : Env) (bx : List Ent) : Bool :=
 match fp with
 | none => true
 | some l => match foot m g env bx with | some f => allN f l | none => false
def ifB (b : Bool) (p : Prop) : Prop := match b with | true => p | false => False
structure CallP where
 fn : Nat -> List D -> List Ent -> D -> List Ent -> Prop
 pr : Pr -> List D -> List Ent -> D -> List Ent -> Prop
 al : Pr -> List D -> List Ent -> (D -> List Ent -> Prop) -> Prop
 it : Nat -> List D -> List (List D) -> (List Ent -> Prop) -> Prop
instance : CoeFun CallP (fun _ => Nat -> List D -> List Ent -> D -> List Ent -> Prop) := ⟨CallP.fn⟩
section
variable (Sp : CallP) (gt : Nat -> Option (List D))
def k9 (n : Nat) : List Ent := List.replicate n .fresh
def AgrN (l : List Nat) (bx bx2 : List Ent) : Prop := ∀ k ∈ l, entN bx k = entN bx2 k
def Kept (l : List Nat) (bx bx' : List Ent) : Prop := ∀ k, k ∉ l -> entN bx' k = entN bx k
def jh0 (R : St -> Prop) (hs : List Prop) (dst : Option Nat) (g : G) (st : St) : Res -> Prop
 | .bad => False
 | .ok p d bx => allP (gob hs p) (R ⟨putE dst g d st.env, bx⟩)
 | .call p eff f ds => allP (gob hs p) (∃ d bx', impP hs (Sp f ds st.bx d bx') /\ (eff = false -> bx' = st.bx) /\ R ⟨putE dst g d st.env, bx'⟩)
 | .row p l i off n => allP (gob hs p) (∃ d d', impP hs (l[i]? = some d) /\ jX d off n = some d' /\ R ⟨putE dst g d' st.env, st.bx⟩)
 | .arr p l i n => allP (gob hs p) (∃ d, impP hs (j1 l i n = some d) /\ R ⟨putE dst g d st.env, st.bx⟩)
 | .ask p Q => allP (gob hs p) (∃ d, impP hs (Q d) /\ R ⟨putE dst g d st.env, st.bx⟩)
 | .put p Q d mk => allP (gob hs p) (∃ l', impP hs (Q l') /\ R ⟨putE dst g d st.env, mk l'⟩)
 | .prm p eff q ds => allP (gob hs p) (∃ d bx', impP hs (Sp.pr q ds st.bx d bx') /\ (eff = false -> bx' = st.bx) /\ (j7 hs -> bx' = st.bx) /\ R ⟨putE dst g d st.env, bx'⟩)
 | .callK p l f ds => allP (gob hs p) (∃ d bx', Sp f ds st.bx d bx' /\ Kept l st.bx bx' /\ R ⟨putE dst g d st.env, bx'⟩)
 | .callC p f ds => allP (gob hs p) (∃ d, impP hs (∀ bx, Sp f ds bx d bx) /\ R ⟨putE dst g d st.env, st.bx⟩)
 | .callN p n f ds => allP (gob hs p) (∃ d bx', Sp f ds st.bx d bx' /\ ((∀ t, Sp f ds (st.bx ++ (k9 n ++ t)) d (bx' ++ t)) /\ ∃ es, bx' = st.bx ++ es /\ es.length = n) /\ R ⟨putE dst g d st.env, bx'⟩)
 | .callR p l f ds => allP (gob hs p) (∃ d, impP hs (∀ bx2, AgrN l st.bx bx2 -> Sp f ds bx2 d bx2) /\ R ⟨putE dst g d st.env, st.bx⟩)
 | .all p q ds => allP (gob hs p) (∃ T : D -> List Ent -> Prop, Sp.al q ds st.bx T /\ ∀ d bx', T d bx' -> R ⟨putE dst g d st.env, bx'⟩)
def goGR (R : St -> Prop) (o : O) (st : St) : Option G -> Prop
 | none => False
 | some g => ifB (fpOk o.fp o.m g st.env st.bx) (jh0 Sp R (hyps st.env g g) o.dst g st (jQ gt o.m g st.env st.bx))
def kV : List O -> (St -> Prop) -> St -> Prop
 | [], K, st => K st
 | o :: os, K, st => goGR Sp gt (kV os K) o st (jP o.dst (jN st.env o.g))
/-! The same, said in words that a walk can stand at. -/
def Xc (hs : List Prop) (eff : Bool) (f : Nat) (ds : List D) (dst : Option Nat) (g : G) (os : List O) (st : St) (K : St -> Prop) : Prop :=
 ∃ d bx', impP hs (Sp f ds st.bx d bx') /\ (eff = false -> bx' = st.bx) /\ kV Sp gt os K ⟨putE dst g d st.env, bx'⟩
def atRow (hs : List Prop) (l : List D) (i off : Nat) (n : Option Nat) (dst : Option Nat) (g : G) (os : List O) (st : St) (K : St -> Prop) : Prop :=
 ∃ d d', impP hs (l[i]? = some d) /\ jX d off n = some d' /\ kV Sp gt os K ⟨putE dst g d' st.env, st.bx⟩
def atArr (hs : List Prop) (l : List D) (i : Nat) (n : Option Nat) (dst : Option Nat) (g : G) (os : List O) (st : St) (K : St -> Prop) : Prop :=
 ∃ d, impP hs (j1 l i n = some d) /\ kV Sp gt os K ⟨putE dst g d st.env, st.bx⟩
def atAsk (hs : List Prop) (Q : D -> Prop) (dst : Option Nat) (g : G) (os : List O) (st : St) (K : St -> Prop) : Prop :=
 ∃ d, impP hs (Q d) /\ kV Sp gt os K ⟨putE dst g d st.env, st.bx⟩
def atPut (hs : List Prop) (Q : List D -> Prop) (d : D) (mk : List D -> List Ent) (dst : Option Nat) (g : G) (os : List O) (st : St) (K : St -> Prop) : Prop :=
 ∃ l', impP hs (Q l') /\ kV Sp gt os K ⟨putE dst g d st.env, mk l'⟩
def jW3 (hs : List Prop) (eff : Bool) (q : Pr) (ds : List D) (dst : Option Nat) (g : G) (os : List O) (st : St) (K : St -> Prop) : Prop :=
 ∃ d bx', impP hs (Sp.pr q ds st.bx d bx') /\ (eff = false -> bx' = st.bx) /\ (j7 hs -> bx' = st.bx) /\ kV Sp gt os K ⟨putE dst g d st.env, bx'⟩
def jH6 (l : List Nat) (f : Nat) (ds : List D) (dst : Option Nat) (g : G) (os : List O) (st : St) (K : St -> Prop) : Prop :=
 ∃ d bx', Sp f ds st.bx d bx' /\ Kept l st.bx bx' /\ kV Sp gt os K ⟨putE dst g d st.env, bx'⟩
def jH7 (hs : List Prop) (f : Nat) (ds : List D) (dst : Option Nat) (g : G) (os : List O) (st : St) (K : St -> Prop) : Prop :=
 ∃ d, impP hs (∀ bx, Sp f ds bx d bx) /\ kV Sp gt os K ⟨putE dst g d st.env, st.bx⟩
def jH5 (n f : Nat) (ds : List D) (dst : Option Nat) (g : G) (os : List O) (st : St) (K : St -> Prop) : Prop :=
 ∃ d bx', Sp f ds st.bx d bx' /\ ((∀ t, Sp f ds (st.bx ++ (k9 n ++ t)) d (bx' ++ t)) /\ ∃ es, bx' = st.bx ++ es /\ es.length = n) /\ kV Sp gt os K ⟨putE dst g d st.env, bx'⟩
def atCallR (hs : List Prop) (l : List Nat) (f : Nat) (ds : List D) (dst : Option Nat) (g : G) (os : List O) (st : St) (K : St -> Prop) : Prop :=
 ∃ d, impP hs (∀ bx2, AgrN l st.bx bx2 -> Sp f ds bx2 d bx2) /\ kV Sp gt os K ⟨putE dst g d st.env, st.bx⟩
def atAll (q : Pr) (ds : List D) (dst : Option Nat) (g : G) (os : List O) (st : St) (K : St -> Prop) : Prop :=
 ∃ T : D -> List Ent -> Prop, Sp.al q ds st.bx T /\ ∀ d bx', T d bx' -> kV Sp gt os K ⟨putE dst g d st.env, bx'⟩
variable {Sp gt}
theorem kO {hs : List Prop} {eff : Bool} {q : Pr} {ds : List D} {dst : Option Nat} {g : G} {os : List O} {st : St} {K : St -> Prop} (d : D) (h : impP hs (Sp.pr q ds st.bx d st.bx))
  (hk : kV Sp gt os K ⟨putE dst g d st.env, st.bx⟩) : jW3 Sp gt hs eff q ds dst g os st K := ⟨d, st.bx, h, fun _ => rfl, fun _ => rfl, hk⟩
theorem qh {q : Pr} {ds : List D} {dst : Option Nat} {g : G} {os : List O} {st : St} {K : St -> Prop} (d : D) (bx' : List Ent) (h : Sp.pr q ds st.bx d bx')
  (hk : kV Sp gt os K ⟨putE dst g d st.env, bx'⟩) : jW3 Sp gt [] true q ds dst g os st K := ⟨d, bx', h, nofun, fun h => h.elim, hk⟩
theorem y9 {q : Pr} {ds : List D} {dst : Option Nat} {g : G} {os : List O} {st : St} {K : St -> Prop} (T : D -> List Ent -> Prop) (h : Sp.al q ds st.bx T)
  (hk : ∀ d bx', T d bx' -> kV Sp gt os K ⟨putE dst g d st.env, bx'⟩) : atAll Sp gt q ds dst g os st K := ⟨T, h, hk⟩
theorem ky {hs : List Prop} {l : List D} {i off : Nat} {n : Option Nat} {dst : Option Nat} {g : G} {os : List O} {st : St} {K : St -> Prop} (d d' : D) (h : impP hs (l[i]? = some d)) (hp : jX d off n = some d')
  (hk : kV Sp gt os K ⟨putE dst g d' st.env, st.bx⟩) : atRow Sp gt hs l i off n dst g os st K := ⟨d, d', h, hp, hk⟩
theorem qO {hs : List Prop} {l : List D} {i : Nat} {n : Option Nat} {dst : Option Nat} {g : G} {os : List O} {st : St} {K : St -> Prop} (d : D) (h : impP hs (j1 l i n = some d))
  (hk : kV Sp gt os K ⟨putE dst g d st.env, st.bx⟩) : atArr Sp gt hs l i n dst g os st K := ⟨d, h, hk⟩
theorem zf {hs : List Prop} {rows : List D} {i off : Nat} {n : Option Nat} {dd d : D} {mk : List D -> List Ent} {dst : Option Nat} {g : G} {os : List O} {st : St} {K : St -> Prop} (r r' : D) (h : rows[i]? = some r) (hp : jy9 r off n dd = some r')
  (hk : kV Sp gt os K ⟨putE dst g d st.env, mk (rows.set i r')⟩) : atPut Sp gt [] (jC5 rows i off n dd) d mk dst g os st K := ⟨_, ⟨r, r', h, hp, rfl⟩, hk⟩
variable (Sp gt)
def goOn (os : List O) (K : St -> Prop) (hs : List Prop) (dst : Option Nat) (g : G) (st : St) (r : Res) : Prop := jh0 Sp (kV Sp gt os K) hs dst g st r
def goG (os : List O) (K : St -> Prop) (o : O) (st : St) (g : Option G) : Prop := goGR Sp gt (kV Sp gt os K) o st g
theorem jd (K : St -> Prop) (st : St) : kV Sp gt [] K st = K st := rfl
theorem ja (o : O) (os : List O) (K : St -> Prop) (st : St) : kV Sp gt (o :: os) K st = goG Sp gt os K o st (jP o.dst (jN st.env o.g)) := rfl
theorem jx (os : List O) (K : St -> Prop) (o : O) (st : St) (g : G) : goG Sp gt os K o st (some g) = ifB (fpOk o.fp o.m g st.env st.bx) (goOn Sp gt os K (hyps st.env g g) o.dst g st (jQ gt o.m g st.env st.bx)) := rfl
theorem jK (os : List O) (K : St -> Prop) (hs : List Prop) (dst : Option Nat) (g : G) (st : St) (p : List Prop) (d : D) (bx : List Ent) :
  goOn Sp gt os K hs dst g st (.ok p d bx) = allP (gob hs p) (kV Sp gt os K ⟨putE dst g d st.env, bx⟩) := rfl
theorem jl (os : List O) (K : St -> Prop) (hs : List Prop) (dst : Option Nat) (g : G) (st : St) (p : List Prop) (eff : Bool) (f : Nat) (ds : List D) :
  goOn Sp gt os K hs dst g st (.call p eff f ds) = allP (gob hs p) (Xc Sp gt hs eff f ds dst g os st K) := rfl
theorem jr (os : List O) (K : St -> Prop) (hs : List Prop) (dst : Option Nat) (g : G) (st : St) (p : List Prop) (l : List D) (i off : Nat) (n : Option Nat) :
  goOn Sp gt os K hs dst g st (.row p l i off n) = allP (gob hs p) (atRow Sp gt hs l i off n dst g os st K) := rfl
theorem jv (os : List O) (K : St -> Prop) (hs : List Prop) (dst : Option Nat) (g : G) (st : St) (p : List Prop) (l : List D) (i : Nat) (n : Option Nat) :
  goOn Sp gt os K hs dst g st (.arr p l i n) = allP (gob hs p) (atArr Sp gt hs l i n dst g os st K) := rfl
theorem goOn_ask (os : List O) (K : St -> Prop) (hs : List Prop) (dst : Option Nat) (g : G) (st : St) (p : List Prop) (Q : D -> Prop) :
  goOn Sp gt os K hs dst g st (.ask p Q) = allP (gob hs p) (atAsk Sp gt hs Q dst g os st K) := rfl
theorem jt (os : List O) (K : St -> Prop) (hs : List Prop) (dst : Option Nat) (g : G) (st : St) (p : List Prop) (Q : List D -> Prop) (d : D) (mk : List D -> List Ent) :
  goOn Sp gt os K hs dst g st (.put p Q d mk) = allP (gob hs p) (atPut Sp gt hs Q d mk dst g os st K) := rfl
theorem jf (os : List O) (K : St -> Prop) (hs : List Prop) (dst : Option Nat) (g : G) (st : St) (p : List Prop) (l : List Nat) (f : Nat) (ds : List D) :
  goOn Sp gt os K hs dst g st (.callK p l f ds) = allP (gob hs p) (jH6 Sp gt l f ds dst g os st K) := rfl
theorem jg (os : List O) (K : St -> Prop) (hs : List Prop) (dst : Option Nat) (g : G) (st : St) (p : List Prop) (f : Nat) (ds : List D) :
  goOn Sp gt os K hs dst g st (.callC p f ds) = allP (gob hs p) (jH7 Sp gt hs f ds dst g os st K) := rfl
theorem je (os : List O) (K : St -> Prop) (hs : List Prop) (dst : Option Nat) (g : G) (st : St) (p : List Prop) (n f : Nat) (ds : List D) :
  goOn Sp gt os K hs dst g st (.callN p n f ds) = allP (gob hs p) (jH5 Sp gt n f ds dst g os st K) := rfl
theorem goOn_callR (os : List O) (K : St -> Prop) (hs : List Prop) (dst : Option Nat) (g : G) (st : St) (p : List Prop) (l : List Nat) (f : Nat) (ds : List D) :
  goOn Sp gt os K hs dst g st (.callR p l f ds) = allP (gob hs p) (atCallR Sp gt hs l f ds dst g os st K) := rfl
theorem ju (os : List O) (K : St -> Prop) (hs : List Prop) (dst : Option Nat) (g : G) (st : St) (p : List Prop) (eff : Bool) (q : Pr) (ds : List D) :
  goOn Sp gt os K hs dst g st (.prm p eff q ds) = allP (gob hs p) (jW3 Sp gt hs eff q ds dst g os st K) := rfl
theorem jw (os : List O) (K : St -> Prop) (hs : List Prop) (dst : Option Nat) (g : G) (st : St) (p : List Prop) (q : Pr) (ds : List D) :
  goOn Sp gt os K hs dst g st (.all p q ds) = allP (gob hs p) (atAll Sp gt q ds dst g os st K) := rfl
end
def subE (env : Env) : Env -> Prop
 | [] => True
 | (s, g, d) :: r => get env s = some (g, d) /\ subE env r
def subB : List Ent -> List Ent -> Prop
 | _, [] => True
 | e :: l, f :: r => e = f /\ subB l r
 | [], _ :: _ => False
mutual
def low (n : Nat) : D -> Bool
 | .box k _ | .boxi k _ | .bsl k _ _ _ | .own k _ | .ownm k _ | .elo k _ _ _ _ | .yld k | .osl k _ _ _ _ => Nat.blt k n
 | .agg l | .tup l | .fn _ l => lowL n l
 | _ => true
def lowL (n : Nat) : List D -> Bool
 | [] => true
 | d :: l => low n d && lowL n l
end
def lowE (n : Nat) : Env -> Bool
 | [] => true
 | (_, [], d) :: r => low n d && lowE n r
 | _ => false
def lowB (n : Nat) : List Ent -> Bool
 | [] => true
 | .cells l :: r => lowL n l && lowB n r
 | .arr _ _ _ _ :: r => lowB n r
 | .gone :: r => lowB n r
 | .fresh :: r => lowB n r
 | .obj _ :: r => lowB n r
 | .map ks vs :: r => lowL n ks && (lowL n vs && lowB n r)
 | .iter _ _ _ :: r => lowB n r
 | .mapx _ _ _ :: r => lowB n r
 | .ito _ _ _ _ _ :: r => lowB n r
 | .tcells _ l :: r => lowL n l && lowB n r
def Sub (n0 : Nat) (st st' : St) : Prop := Nat.ble n0 (jZ st'.bx) = true /\ subE st.env st'.env /\ subB st.bx st'.bx /\ lowE (jZ st'.bx) st'.env = true /\ lowB (jZ st'.bx) st'.bx = true
def kd (env : Env) : List Nat -> Env
 | [] => []
 | s :: ks => match rd env [] s with
   | some d => (s, [], d) :: kd env ks
   | none => kd env ks
def kp : Option (List Nat) -> St -> St
 | none, st => st
 | some ks, st => ⟨kd st.env ks, st.bx⟩
def regK (ks : Option (List Nat)) (K : Ex -> St -> Prop) (st : St) : Prop := K .nrm (kp ks st)
def blkK (id : Nat) (K : Ex -> St -> Prop) : Ex -> St -> Prop
 | .exit j, st' => bif j == id then K .nrm st' else K (.exit j) st'
 | .nrm, st' => K .nrm st'
 | .ret, st' => K .ret st'
def JV (R : St -> Prop) (K : Ex -> St -> Prop) : Ex -> St -> Prop
 | .nrm, st' => R st'
 | .exit j, st' => K (.exit j) st'
 | .ret, st' => K .ret st'
def Xj (n0 : Nat) (I : St -> Prop) (s : St) : Prop := I s \/ ∃ s', Sub n0 s s' /\ I s'
def iteR (A B : Prop) : Option D -> Prop
 | some (.bool c) => (c = true -> A) /\ (c = false -> B)
 | _ => False
def jO : Env -> Bool
 | [] => true
 | (_, [], _) :: r => jO r
 | _ => false
def xn : List Nat -> List D -> Env -> Env
 | p :: ps, d :: ds, env => xn ps ds ((p, [], d) :: env)
 | _, _, env => env
def za : List Ent -> List Ent -> List Ent
 | _ :: a, x :: b => x :: za a b
 | _, _ => []
def goK (b0 : List Ent) (o : Obj) (b1 : List Ent) : Ex -> St -> Prop
 | .nrm, s => entN s.bx (jZ b0) = some (.obj o) /\ za b0 s.bx = b1
 | _, _ => False
def jN2 (b0 : List Ent) (o : Obj) (e : Ex) (b1 : List Ent) (e' : Ex) (s : St) : Prop := e' = e /\ entN s.bx (jZ b0) = some (.obj o) /\ za b0 s.bx = b1
def jm5 : Ex -> Bool
 | .nrm => false
 | _ => true
def midK (n : Nat) (o : Obj) (R : Obj -> St -> Prop) : Ex -> St -> Prop
 | .nrm, t => entN t.bx n = some (.obj o) /\ ∀ o', R o' ⟨t.env, setE t.bx n (.obj o')⟩
 | _, _ => False
def qQ : C -> Bool
 | .loop _ => false
 | .rangef .. => false
 | .seq a b => qQ a && qQ b
 | .ite _ a b => qQ a && qQ b
 | .blk _ c => qQ c
 | _ => true
def lenL : List D -> List Nat -> Bool
 | [], [] => true
 | _ :: l, _ :: r => lenL l r
 | [], _ :: _ => false
 | _ :: _, [] => false
def Stp (ra rb : (Ex -> St -> Prop) -> St -> Prop) (ps : List Nat) (K : Ex -> St -> Prop) (st : St) (xs : List (List D)) (bm : List Ent) (m : Nat) : Prop :=
 ∃ e bs, jm5 e = true /\ jZ bs = jZ st.bx /\ lowB (jZ st.bx) bs = true /\ (∀ x o, xs[m]? = some x -> ra (midK (jZ st.bx) o fun o' t => rb (jN2 st.bx o' e bs) t) ⟨xn ps x st.env, addE bm (.obj o)⟩) /\ K e ⟨st.env, bs⟩
structure Rng (it : Nat -> List D -> List (List D) -> (List Ent -> Prop) -> Prop) (ps : List Nat) (ra rb : (Ex -> St -> Prop) -> St -> Prop) (K : Ex -> St -> Prop) (st : St) (f : Nat) (caps : List D) (xs : List (List D)) (Kp : List Ent -> Prop) (S : Nat -> List Ent) (m : Nat) : Prop where
 it : it f caps xs Kp
 pl : jO st.env = true
 len : ∀ x ∈ xs, lenL x ps = true
 few : m <= xs.length
 low : ∀ i, i <= m -> jZ (S i) = jZ st.bx /\ lowB (jZ st.bx) (S i) = true /\ Kp (S i)
 start : S 0 = st.bx
 round : ∀ i x o, i < m -> xs[i]? = some x -> ra (midK (jZ st.bx) o fun o' t => rb (goK st.bx o' (S (i + 1))) t) ⟨xn ps x st.env, addE (S i) (.obj o)⟩
 stop : m < xs.length -> Stp ra rb ps K st xs (S m) m
 done : m = xs.length -> K .nrm ⟨st.env, S m⟩
def rngR (it : Nat -> List D -> List (List D) -> (List Ent -> Prop) -> Prop) (ps : List Nat) (ra rb : (Ex -> St -> Prop) -> St -> Prop) (K : Ex -> St -> Prop) (st : St) : Option D -> Prop
 | some (.fn f caps) => ∃ xs Kp S m, Rng it ps ra rb K st f caps xs Kp S m
 | _ => False
section
variable (Sp : CallP) (gt : Nat -> Option (List D)) (n0 : Nat)
def run : C -> (Ex -> St -> Prop) -> St -> Prop
 | .skip, K, st => K .nrm st
 | .reg _ ops ks, K, st => ifB (jO st.env) (kV Sp gt ops (regK ks K) st)
 | .seq a b, K, st => run a (JV (run b K) K) st
 | .ite x a b, K, st => iteR (run a K st) (run b K st) (evX st.env [] x)
 | .blk id c, K, st => run c (blkK id K) st
 | .loop c, K, st => ∀ I : St -> Prop, (∀ s, run c (JV (Xj n0 I) K) s -> I s) -> Xj n0 I st
 | .exit id, K, st => K (.exit id) st
 | .ret, K, st => K .ret st
 | .rangef x ps a b, K, st => ifB (qQ a && qQ b) (rngR Sp.it ps (run a) (run b) K st (evX st.env [] x))
def Zk (b : C) (K : Ex -> St -> Prop) : Ex -> St -> Prop := JV (run Sp gt n0 b K) K
theorem jh (b : C) (K : Ex -> St -> Prop) (st : St) : Zk Sp gt n0 b K .nrm st = run Sp gt n0 b K st := rfl
theorem jc (b : C) (K : Ex -> St -> Prop) (j : Nat) (st : St) : Zk Sp gt n0 b K (.exit j) st = K (.exit j) st := rfl
theorem jk (b : C) (K : Ex -> St -> Prop) (st : St) : Zk Sp gt n0 b K .ret st = K .ret st := rfl
theorem jn (K : Ex -> St -> Prop) (st : St) : run Sp gt n0 .skip K st = K .nrm st := rfl
theorem jH (d : Bool) (ops : List O) (ks : Option (List Nat)) (K : Ex -> St -> Prop) (st : St) : run Sp gt n0 (.reg d ops ks) K st = ifB (jO st.env) (kV Sp gt ops (regK ks K) st) := rfl
theorem jq (p : Prop) : ifB true p = p := rfl
theorem jF (a b : C) (K : Ex -> St -> Prop) (st : St) : run Sp gt n0 (.seq a b) K st = run Sp gt n0 a (Zk Sp gt n0 b K) st := rfl
theorem jJ (id : Nat) (c : C) (K : Ex -> St -> Prop) (st : St) : run Sp gt n0 (.blk id c) K st = run Sp gt n0 c (blkK id K) st := rfl
theorem jo (id : Nat) (K : Ex -> St -> Prop) (st : St) : run Sp gt n0 (.exit id) K st = K (.exit id) st := rfl
theorem jG (K : Ex -> St -> Prop) (st : St) : run Sp gt n0 .ret K st = K .ret st := rfl
theorem jI (x : X) (a b : C) (K : Ex -> St -> Prop) (st : St) : run Sp gt n0 (.ite x a b) K st = iteR (run Sp gt n0 a K st) (run Sp gt n0 b K st) (evX st.env [] x) := rfl
end
inductive R where
 | t (s : Nat)
 | cell (s : Nat) (n : Option Nat)
def resD (st : St) : R -> Option D
 | .t s => rd st.env [] s
 | .cell s n => match rd st.env [] s with
   | some (.box k off) => match entN st.bx k with
     | some (.cells l) => j1 l off n
     | _ => none
   | _ => none
def resL (st : St) : List R -> Option (List D)
 | [] => some []
 | r :: rs => match resD st r, resL st rs with
   | some d, some l => some (d :: l)
   | _, _ => none
def oneD : List D -> D
 | [d] => d
 | l => .tup l
def ko (F : D -> List Ent -> Prop) (bx : List Ent) : Option (List D) -> Prop
 | some l => F (oneD l) bx
 | none => False
def retG (rs : List R) (F : D -> List Ent -> Prop) : Ex -> St -> Prop
 | .exit _, _ => False
 | .nrm, st => ko F st.bx (resL st rs)
 | .ret, st => ko F st.bx (resL st rs)
def retD (R : D -> Prop) : Option (List Prop × Bool × D) -> Prop
 | some (q, _, d) => allP q (R d)
 | none => False
def ki (bx : List Ent) : Option (List D) -> Option (List Prop × Bool × D)
 | some l => lend bx (oneD l)
 | none => none
def retK (rs : List R) (R : D -> Prop) : Ex -> St -> Prop
 | .exit _, _ => False
 | .nrm, st => retD R (ki st.bx (resL st rs))
 | .ret, st => retD R (ki st.bx (resL st rs))
def env0 : Nat -> List D -> Env
 | _, [] => []
 | n, d :: l => (n, [], d) :: env0 (n + 1) l
end Go.AM
set_option linter.all false
namespace Go.AM
open Go
def szOf (P : Program) (t : TypeId) : Option Nat := (P.info? t).map (·.size)
def aggN (P : Program) (t : TypeId) : Option (Option Nat) :=
 match P.underlying t, P.info? t with
 | some (.struct _), some i | some (.array _ _), some i => if i.size = 0 then none else some (some i.size)
 | some .bool, some i | some (.int _), some i | some .string, some i | some (.slice _), some i | some (.func _ _ _), some i | some (.pointer _), some i | some (.map _ _), some i => if i.size = 1 then some none else none
 | _, _ => none
def ja0 (P : Program) (t : TypeId) : Value -> Option D
 | .int k n => some (.int k n)
 | .bool b => some (.bool b)
 | .string s => some (.str s.data.toList)
 | .slice none 0 0 => match P.underlying t with
   | some (.slice e) => (szOf P e).map fun n => .ls n []
   | _ => none
 | .nilFunc | .pointer none => some .nil
 | .nilIface => some (.ifc true)
 | .map none => some (.mp [] [])
 | _ => none
def opX (P : Program) (t : TypeId) : Operand -> Option X
 | .tmp s => some (.t s)
 | .const v => (ja0 P t v).map .c
 | .global g => some (.c (.glob g 0))
 | .func f => some (.c (.fn f []))
def jM4 (P : Program) : Nat -> TypeId -> Option (List D)
 | 0, _ => none
 | d + 1, t => match P.underlying t with
   | some (.int k) => some [.int k 0]
   | some .bool => some [.bool false]
   | some .string => some [.str []]
   | some (.slice e) => (szOf P e).map fun n => [.ls n []]
   | some (.struct fs) => (fs.toList.mapM fun f => jM4 P d f.type).map List.flatten
   | some (.array n e) => (jM4 P d e).map fun z => (List.replicate n z).flatten
   | some (.func _ _ _) | some (.pointer _) => some [.nil]
   | some (.map _ _) => some [.mp [] []]
   | _ => none
def repB : D -> Value -> Bool
 | .int k n, .int k' n' => kEq k k' && n == n'
 | .bool b, .bool b' => b == b'
 | .str s, .string s' => s == s'.data.toList
 | .ls _ [], .slice none 0 0 => true
 | .nil, .nilFunc | .nil, .pointer none => true
 | .mp [] [], .map none => true
 | _, _ => false
def yq : List D -> List Value -> Bool
 | [], [] => true
 | d :: l, v :: r => repB d v && yq l r
 | _, _ => false
def xv (P : Program) (t : TypeId) : Option (List D) :=
 match jM4 P 8 t, (P.info? t).bind (·.zero) with
 | some l, some z => if yq l z.cells.toList then some l else none
 | _, _ => none
def qg (P : Program) (t : TypeId) : Option IntKind := match P.underlying t with | some (.int k) => some k | _ => none
def vz (P : Program) : Nat -> List Field -> Option (List CK)
 | _, [] => some []
 | j, f :: fs =>
   if f.offset = j /\ f.name ≠ "_" /\ szOf P f.type = some 1 then
    match P.underlying f.type, vz P (j + 1) fs with
    | some .bool, some l => some (.b :: l)
    | some .string, some l => some (.s :: l)
    | some (.int k), some l => some (.i k :: l)
    | _, _ => none
   else none
def QO (P : Program) (t : TypeId) : Option (List CK) :=
 match P.underlying t with
 | some (.struct fs) => if P.eqGuardType P.depth t = false /\ P.stoodInHeld t = false then vz P 0 fs.toList else none
 | _ => none
def V5 (P : Program) (neg : Bool) (t : TypeId) (x y : Operand) : Option M := do
 let x' <- opX P t x
 let y' <- opX P t y
 match P.underlying t with
 | some .bool => some (.eqb neg false x' y')
 | some .string => some (.eqb neg true x' y')
 | some (.struct _) => (QO P t).map fun n => .eqS neg n x' y'
 | _ => none
def xu (P : Program) (b : Builtin) (args : List Operand) (ts : List TypeId) : Option M :=
 match b, args, ts with
 | .len, [x], [t] => match P.underlying t with
   | some (.slice _) => (opX P t x).map (.len false)
   | some .string => (opX P t x).map (.len true)
   | _ => none
 | .max, [x, y], [t, u] => do
   let _ <- qg P t
   let _ <- qg P u
   some (.mx (<- opX P t x) (<- opX P u y))
 | .min, [x, y], [t, u] => do
   let _ <- qg P t
   let _ <- qg P u
   some (.mn (<- opX P t x) (<- opX P u y))
 | .append, [x, y], [t, u] => match P.underlying t with
   | some (.slice e) => if t = u then do
      let i <- P.info? e
      let z <- i.zero
      if z.cells.size = i.size /\ 0 < i.size /\ i.bytes <= 64 then some (.app e i.size i.bytes (<- opX P t x) (<- opX P u y)) else none
     else none
   | _ => none
 | .copy, [x, y], [t, u] => match P.underlying t with
   | some (.slice e) => if t = u then do
      let i <- P.info? e
      if 0 < i.size then some (.cpy e i.size (<- opX P t x) (<- opX P u y)) else none
     else none
   | _ => none
 | _, _, _ => none
def opXs (P : Program) : List Operand -> List TypeId -> Option (List X)
 | [], [] => some []
 | x :: xs, t :: ts => match opX P t x, opXs P xs ts with | some a, some l => some (a :: l) | _, _ => none
 | _, _ => none
def vy (P : Program) (fs : Nat -> Option (Nat × TypeId)) : List (Nat × Operand) -> Option (List (Nat × Option Nat × X))
 | [] => some []
 | (i, x) :: r => match fs i, vy P fs r with
   | some (off, t), some l => match aggN P t, opX P t x with
     | some n, some x' => some ((off, n, x') :: l)
     | _, _ => none
   | _, _ => none
def vc (P : Program) (t : TypeId) : Nat -> List (Nat × Operand) -> Option (List X)
 | _, [] => some []
 | n, (i, x) :: r => if i = n then match opX P t x, vc P t (n + 1) r with | some x', some l => some (x' :: l) | _, _ => none else none
def opXo (P : Program) : Option Operand -> Option (Option X)
 | none => some none
 | some x => match opX P 0 x with | some x' => some (some x') | none => none
def V4 (P : Program) (ty : TypeId) : Op -> Option M
 | .move (.const (.slice none 0 0)) | .assign (.const (.slice none 0 0)) => match P.underlying ty with
   | some (.slice e) => (szOf P e).map (.nilS e)
   | _ => none
 | .move x | .assign x => (opX P ty x).map (.mv false)
 | .pick c a b => match opX P ty c, opX P ty a, opX P ty b with
   | some c', some a', some b' => some (.pick c' a' b')
   | _, _, _ => none
 | .alloc t => (xv P t).map .alloc
 | .box t x => match aggN P t, opX P t x with
   | some n, some x' => some (.box n.isSome x')
   | _, _ => none
 | .build t parts => match xv P t, P.underlying t with
   | some z, some (.struct fs) => if (fs.toList.all fun f => (szOf P f.type).isSome) then (vy P (fun i => fs[i]?.map fun f => (f.offset, f.type)) parts.toList).map (.bld z) else none
   | some z, some (.array _ e) => match szOf P e with
     | some s => (vy P (fun i => some (i * s, e)) parts.toList).map (.bld z)
     | none => none
   | _, _ => none
 | .buildSlice t n parts => match P.underlying t with
   | some (.slice e) => match szOf P e, aggN P e, vc P e 0 parts.toList with
     | some s, some a, some xs => if xs.length = n /\ 0 < s /\ n * s <= 4096 /\ ((P.info? e).bind (·.zero)).isSome then some (.bsl none e s a xs) else none
     | _, _, _ => none
   | _ => none
 | .load t x => match aggN P t, opX P 0 x with
   | some n, some x' => some (.ld n x')
   | _, _ => none
 | .store t a x => match aggN P t, opX P 0 a, opX P t x with
   | some n, some a', some x' => some (.st n a' x')
   | _, _, _ => none
 | .fieldAddr s x f => match P.underlying s, opX P 0 x with
   | some (.struct fs), some x' => match fs[f]? with
     | some f => match szOf P f.type with
       | some (_ + 1) => some (.fld f.offset x')
       | _ => none
     | none => none
   | _, _ => none
 | .indexAddr t x i => match P.underlying t, opX P t x, opX P 0 i with
   | some (.slice e), some x', some i' => match szOf P e with
     | some (s + 1) => some (.ixs (s + 1) x' i')
     | _ => none
   | some (.array n e), some x', some i' => match szOf P e with
     | some (s + 1) => some (.ixa n (s + 1) x' i')
     | _ => none
   | _, _, _ => none
 | .field t x f => match P.underlying t, opX P t x with
   | some (.struct fs), some x' => match fs[f]? with
     | some f => (aggN P f.type).map fun n => .part f.offset n x'
     | none => none
   | _, _ => none
 | .index t x i => match P.underlying t, opX P t x, opX P 0 i with
   | some (.array n e), some x', some i' => match szOf P e, aggN P e with
     | some s, some a => some (.ixv n s a x' i')
     | _, _ => none
   | some .string, some x', some i' => some (.sidx x' i')
   | _, _, _ => none
 | .binOp op t x y yt => match qg P t with
   | some k => match opX P t x, opX P yt y with
     | some x', some y' => some (.bin op k x' y')
     | _, _ => none
   | none => match op with
     | .eql => V5 P false t x y
     | .neq => V5 P true t x y
     | .add => match P.underlying t, opX P t x, opX P t y with
       | some .string, some x', some y' => some (.cat x' y')
       | _, _, _ => none
     | _ => none
 | .unOp .not t x => (opX P t x).map .not
 | .unOp .neg t x => match qg P t, opX P t x with
   | some k, some x' => some (.neg k x')
   | _, _ => none
 | .convert s d x => match qg P s, qg P d, opX P s x with
   | some _, some k, some x' => some (.conv k x')
   | _, _, some x' => match P.underlying s, P.underlying d with
     | some (.slice e), some .string => match qg P e with | some .u8 => some (.b2s x') | _ => none
     | _, _ => none
   | _, _, _ => none
 | .nilCheck x => (opX P 0 x).map .chk
 | .makeFunc (.func f) first caps => if first.size = 0 then (opXs P caps.toList (List.replicate caps.size 0)).map (.clo f) else none
 | .makeSlice t l c => match P.underlying t, opX P 0 l, opX P 0 c with
   | some (.slice e), some l', some c' => match P.info? e, xv P e, aggN P e with
     | some i, some z, some n => if 0 < i.size /\ i.bytes <= 65536 /\ z.length = i.size then some (.mks e i.size n z l' c') else none
     | _, _, _ => none
   | _, _, _ => none
 | .slice t x lo hi none => match P.underlying t, opX P t x, opXo P lo, opXo P hi with
   | some .string, some x', some lo', some hi' => some (.sst x' lo' hi')
   | some (.slice e), some x', some lo', some hi' => match szOf P e with
     | some (s + 1) => some (.sls false (s + 1) x' lo' hi')
     | _ => none
   | some (.array n e), some x', some lo', some hi' => match szOf P e with
     | some (s + 1) => some (.sla n (s + 1) x' lo' hi')
     | _ => none
   | _, _, _, _ => none
 | .call c => match c.callee with
   | .builtin b => xu P b c.args.toList c.argTypes.toList
   | .value (.func f) => (opXs P c.args.toList c.argTypes.toList).map (.call false f)
   | .value (.tmp s) => (opXs P c.args.toList c.argTypes.toList).map (.callv false (.t s))
   | _ => none
 | .extract x i => (opX P 0 x).map (.ext · i)
 | _ => none
def Pr.op : Pr -> List Operand -> Option Op
 | .lkp t ok, [x, i] => some (.lookup t x i ok)
 | .upd t, [m, k, v] => some (.mapUpdate t m k v)
 | .mkm t, [] => some (.makeMap t none)
 | .mkm t, [x] => some (.makeMap t (some x))
 | .lenm t, [x] => some (.call ⟨.builtin .len, #[x], #[t]⟩)
 | .delm t u, [m, k] => some (.call ⟨.builtin .delete, #[m, k], #[t, u]⟩)
 | .rng t, [x] => some (.range t x)
 | .nxt b, [x] => some (.next x b)
 | .ent, [x] => some (.entry x)
 | .capS t, [x] => some (.call ⟨.builtin .cap, #[x], #[t]⟩)
 | .clr t, [x] => some (.call ⟨.builtin .clear, #[x], #[t]⟩)
 | .eqn neg t, [x] => some (.binOp (match neg with | true => .neq | false => .eql) t x (.const (.slice none 0 0)) t)
 | .alc t, [] => some (.alloc t)
 | .blt t i, [x] => some (.build t #[(i, x)])
 | .ins t, [m, k, v] => some (.insert t m k v)
 | .aps t u, [x, y] => some (.call ⟨.builtin .append, #[x, y], #[t, u]⟩)
 | .yld ts, x :: xs => some (.call ⟨.value x, ⟨xs⟩, ⟨ts⟩⟩)
 | .sub t true true, [x, a, b] => some (.slice t x (some a) (some b) none)
 | .sub t true false, [x, a] => some (.slice t x (some a) none none)
 | .sub t false true, [x, b] => some (.slice t x none (some b) none)
 | .trc t, [x, b] => some (.slice t x none (some b) none)
 | .mkd t, [l, c] => some (.makeSlice t l c)
 | .tdv r t u, [x, y] => some (.binOp (match r with | true => .rem | false => .quo) t x y u)
 | .clp t, [x, b, c] => some (.slice t x none (some b) (some c))
 | .ilk neg t u, [x] => some (.binOp (match neg with | true => .neq | false => .eql) t x (.const .nilIface) u)
 | _, _ => none
def jt6 (P : Program) : List Operand -> Option (List X)
 | [] => some []
 | x :: xs => match opX P 0 x, jt6 P xs with | some a, some l => some (a :: l) | _, _ => none
def KX (P : Program) : Op -> Option M
 | .call ⟨.value (.tmp s), ⟨xs⟩, ⟨ts⟩⟩ => match jt6 P xs with | some xs' => some (.prm false false (.yld ts) (.t s :: xs')) | none => none
 | .slice t x (some a) (some b) none => match opX P 0 x, opX P 0 a, opX P 0 b with | some x', some a', some b' => some (.prm false false (.sub t true true) [x', a', b']) | _, _, _ => none
 | .slice t x (some a) none none => match opX P 0 x, opX P 0 a with | some x', some a' => some (.prm false false (.sub t true false) [x', a']) | _, _ => none
 | .slice t x none (some b) none => match opX P 0 x, opX P 0 b with | some x', some b' => some (.prm false false (.trc t) [x', b']) | _, _ => none
 | .slice t x none (some b) (some c) => match opX P 0 x, opX P 0 b, opX P 0 c with | some x', some b', some c' => some (.prm false false (.clp t) [x', b', c']) | _, _, _ => none
 | .makeSlice t x i => match opX P 0 x, opX P 0 i with | some x', some i' => some (.prm false false (.mkd t) [x', i']) | _, _ => none
 | .binOp .quo t x i u => match opX P t x, opX P u i with | some x', some i' => some (.prm false false (.tdv false t u) [x', i']) | _, _ => none
 | .binOp .rem t x i u => match opX P t x, opX P u i with | some x', some i' => some (.prm false false (.tdv true t u) [x', i']) | _, _ => none
 | .lookup t x i ok => match opX P 0 x, opX P 0 i with | some x', some i' => some (.prm false false (.lkp t ok) [x', i']) | _, _ => none
 | .mapUpdate t m k v => match opX P 0 m, opX P 0 k, opX P 0 v with | some m', some k', some v' => some (.prm false false (.upd t) [m', k', v']) | _, _, _ => none
 | .makeMap t none => some (.prm false false (.mkm t) [])
 | .makeMap t (some x) => match opX P 0 x with | some x' => some (.prm false false (.mkm t) [x']) | none => none
 | .range t x => match opX P 0 x with | some x' => some (.prm false false (.rng t) [x']) | none => none
 | .next x b => match opX P 0 x with | some x' => some (.prm false false (.nxt b) [x']) | none => none
 | .entry x => match opX P 0 x with | some x' => some (.prm false false .ent [x']) | none => none
 | .call ⟨.builtin .len, ⟨[x]⟩, ⟨[t]⟩⟩ => match opX P 0 x with | some x' => some (.prm false false (.lenm t) [x']) | none => none
 | .call ⟨.builtin .delete, ⟨[x, k]⟩, ⟨[t, u]⟩⟩ => match opX P 0 x, opX P 0 k with | some x', some k' => some (.prm false false (.delm t u) [x', k']) | _, _ => none
 | .call ⟨.builtin .cap, ⟨[x]⟩, ⟨[t]⟩⟩ => match opX P 0 x with | some x' => some (.prm false false (.capS t) [x']) | none => none
 | .call ⟨.builtin .clear, ⟨[x]⟩, ⟨[t]⟩⟩ => match opX P 0 x with | some x' => some (.prm false false (.clr t) [x']) | none => none
 | .alloc t => some (.prm false false (.alc t) [])
 | .build t ⟨[(i, x)]⟩ => match opX P 0 x with | some x' => some (.prm false false (.blt t i) [x']) | none => none
 | .insert t m k v => match opX P 0 m, opX P 0 k, opX P 0 v with | some m', some k', some v' => some (.prm false false (.ins t) [m', k', v']) | _, _, _ => none
 | .call ⟨.builtin .append, ⟨[x, y]⟩, ⟨[t, u]⟩⟩ => match opX P 0 x, opX P 0 y with | some x', some y' => some (.prm false false (.aps t u) [x', y']) | _, _ => none
 | .binOp .eql t x (.const .nilIface) u => match opX P 0 x with | some x' => some (.prm false false (.ilk false t u) [x']) | none => none
 | .binOp .neq t x (.const .nilIface) u => match opX P 0 x with | some x' => some (.prm false false (.ilk true t u) [x']) | none => none
 | .binOp .eql t x (.const (.slice none 0 0)) u => if t = u then (match opX P 0 x with | some x' => some (.prm false false (.eqn false t) [x']) | none => none) else none
 | .binOp .neq t x (.const (.slice none 0 0)) u => if t = u then (match opX P 0 x with | some x' => some (.prm false false (.eqn true t) [x']) | none => none) else none
 | _ => none
def jw2 (P : Program) (ty : TypeId) (op : Op) : Option M := match V4 P ty op with
 | some m => some m
 | none => KX P op
def ja8 (P : Program) (ty : TypeId) (op : Op) (h : M) : Option M := match h with
 | .prm .. => KX P op
 | _ => jw2 P ty op
def okDst (nt : Nat) : Option Nat -> Bool
 | some d => decide (d < nt)
 | none => true
def jU7 (ops : Array Oper) : Option (Nat × Bool) -> Option (Option (Nat × Bool))
 | none => some none
 | some (j, pol) => match (ops[j]?).bind (·.dst) with
   | some s => some (some (s, pol))
   | none => none
def Vf (P : Program) (nt : Nat) (ops : Array Oper) (o : Oper) (h : O) : Option O :=
 match ja8 P o.type o.op h.m, okDst nt o.dst, jU7 ops o.guard with
 | some m, true, some g => some ⟨o.dst, g, m, none⟩
 | _, _, _ => none
def vq (P : Program) (nt : Nat) (ops : Array Oper) : List Oper -> List O -> Option (List O)
 | [], [] => some []
 | o :: os, h :: hs => match Vf P nt ops o h, vq P nt ops os hs with | some a, some l => some (a :: l) | _, _ => none
 | _, _ => none
def xsl : X -> List Nat
 | .t s => [s]
 | .c _ => []
def xsls : List X -> List Nat
 | [] => []
 | x :: l => xsl x ++ xsls l
def xslo : Option X -> List Nat
 | none => []
 | some x => xsl x
def msl : M -> List Nat
 | .mv _ x | .box _ x | .ld _ x | .fld _ x | .part _ _ x | .not x | .neg _ x | .conv _ x | .cvw _ x | .len _ x | .ext x _ | .b2s x | .chk x => xsl x
 | .pick a b c => xsl a ++ (xsl b ++ xsl c)
 | .alloc _ | .nilS .. | .nilF .. => []
 | .st _ a b | .ixs _ a b | .ixa _ _ a b | .ixv _ _ _ a b | .sidx a b | .bin _ _ a b | .cat a b | .eqb _ _ a b | .eqS _ _ a b | .mx a b | .mn a b | .app _ _ _ a b | .cpy _ _ a b | .mks _ _ _ _ a b => xsl a ++ xsl b
 | .sls _ _ x lo hi | .sst x lo hi | .sla _ _ x lo hi => xsl x ++ (xslo lo ++ xslo hi)
 | .bld _ ps => xsls (jR ps)
 | .bsl _ _ _ _ l | .call _ _ l | .clo _ l => xsls l
 | .callv _ x l => xsl x ++ xsls l
 | .prm _ _ _ l => xsls l
 | .callK _ _ l => xsls l
 | .callC _ l => xsls l
 | .callN _ _ l => xsls l
 | .callR _ _ l => xsls l
def kT : M -> Bool
 | .alloc _ | .nilS .. | .box .. | .st .. | .app .. | .cpy .. | .mks .. | .mv true _ | .call true _ _ | .callv true _ _ | .sls true .. => true
 | .bsl (some _) .. => true
 | .prm true _ _ _ | .prm false true _ _ | .callK .. | .callN .. => true
 | _ => false
def ndM : M -> Bool
 | .prm true _ _ _ => true
 | _ => false
def hasN : List Nat -> Nat -> Bool
 | [], _ => false
 | s :: l, t => match s == t with | true => true | false => hasN l t
def gHas : Option (Nat × Bool) -> Nat -> Bool
 | none, _ => false
 | some (s, _), t => s == t
def qS (a : O) : Option Nat -> Bool
 | none => false
 | some d => bO (hasN (msl a.m) d) (bO (gHas a.g d) (match a.dst with | some d' => d' == d | none => false))
def jf2 : M -> Bool
 | .mv false _ | .pick .. | .fld .. | .ixa .. | .part .. | .ixv .. | .sidx .. | .bld .. | .bsl none .. | .bin .. | .cat .. | .eqb .. | .eqS .. | .not _ | .neg .. | .conv .. | .cvw .. | .mx .. | .mn .. | .clo .. | .sst .. | .sla .. | .ext .. | .chk _ | .nilF .. | .callC .. | .sls false .. => true
 | _ => false
def JA (o : O) : Option (List Nat) := match jf2 o.m with
 | true => some []
 | false => match o.m with
   | .ld .. | .ixs .. | .len .. => o.fp
   | .callR l _ _ => some l
   | _ => none
def puts (o : O) : Option (List Nat) := match o.m with
 | .st .. | .app .. | .alloc _ | .callN .. => o.fp
 | .callK l _ _ => some l
 | _ => none
def jF8 : List Nat -> List Nat -> Bool
 | [], _ => false
 | x :: l, r => bO (hasN r x) (jF8 l r)
def memC (a e : O) : Bool := match JA a, puts e with
 | some [], _ => false
 | some l, some r => jF8 l r
 | _, _ => true
def conf (a b : O) : Bool := bO (qS a b.dst) (bO (qS b a.dst) (bO (bA (kT a.m) (bO (kT b.m) (memC b a))) (bA (kT b.m) (bO (kT a.m) (memC a b)))))
def insN (l : List Nat) (x : Nat) : List Nat := match hasN l x with | true => l | false => x :: l
def YS : List Nat -> List Nat -> List Nat
 | l, [] => l
 | l, x :: r => YS (insN l x) r
def nthL : List (List Nat) -> Nat -> List Nat
 | [], _ => []
 | l :: _, 0 => l
 | _ :: r, n + 1 => nthL r n
def ancs (acc : List (List Nat)) : List Edge -> List Nat
 | [] => []
 | e :: es => match Region.binds .any e with
   | true => YS (insN (ancs acc es) e.on) (nthL acc e.on)
   | false => ancs acc es
def vU : List D -> Bool
 | [.bsl _ _ _ _] => false
 | _ => true
def eqNs : List Nat -> List Nat -> Bool
 | [], [] => true
 | x :: l, y :: r => bA (x == y) (eqNs l r)
 | _, _ => false
def twin (b a : O) : Bool := match b.m, a.m, b.g, a.g, b.fp, a.fp with
 | .alloc z, .alloc z', none, none, some l, some l' => bA (vU z) (bA (vU z') (bA (eqNs l l') (bA (bN (qS a b.dst)) (bN (qS b a.dst)))))
 | .callN _ _ _, .alloc z', none, none, some l, some l' => bA (vU z') (bA (eqNs l l') (bA (bN (qS a b.dst)) (bN (qS b a.dst))))
 | _, _, _, _, _, _ => false
def yJ (an : List Nat) (a : O) : Nat -> List O -> Bool
 | _, [] => true
 | i, [b] => match conf a b with | true => bO (hasN an i) (twin b a) | false => true
 | i, b :: l => bA (match conf a b with | true => hasN an i | false => true) (yJ an a (i + 1) l)
def Jb (g : Option (Nat × Bool)) : List O -> Bool
 | [] => true
 | b :: l => bA (match b.dst with | some d => bN (gHas g d) | none => true) (Jb g l)
def Qy : List (List Nat) -> List O -> List Oper -> List O -> Bool
 | _, _, [], [] => true
 | acc, done, o :: os, a :: as => bA (yJ (ancs acc o.after.toList) a 0 done) (bA (bN (ndM a.m)) (bA (Jb a.g (a :: as)) (Qy (acc ++ [ancs acc o.after.toList]) (done ++ [a]) os as)))
 | _, _, _, _ => false
def jH4 (i : Nat) : List Edge -> Bool
 | [] => true
 | e :: es => bA (match Region.binds .any e with | true => Nat.blt e.on i | false => true) (jH4 i es)
def ji0 : Nat -> List Oper -> Bool
 | _, [] => true
 | i, o :: os => bA (jH4 i o.after.toList) (ji0 (i + 1) os)
def kx (P : Program) (nt : Nat) : Code -> C -> Option C
 | .skip, _ => some .skip
 | .region _ ops d, .reg _ h _ => match vq P nt ops ops.toList h with
   | some l => match bO (bN d) (bA (Qy [] [] ops.toList h) (ji0 0 ops.toList)) with
     | true => some (.reg d l none)
     | false => none
   | none => none
 | .seq a b, .seq ha hb => match kx P nt a ha, kx P nt b hb with | some x, some y => some (.seq x y) | _, _ => none
 | .cond c a b, .ite _ ha hb => match opX P 0 c, kx P nt a ha, kx P nt b hb with | some c', some x, some y => some (.ite c' x y) | _, _, _ => none
 | .block id c, .blk _ h => (kx P nt c h).map (.blk id)
 | .loop c, .loop h => (kx P nt c h).map .loop
 | .rangeFunc g ps a b, .rangef _ _ ha hb => match opX P 0 g, kx P nt a ha, kx P nt b hb with | some x, some a', some b' => if ps.toList.all (fun p => decide (p < nt)) /\ ps.toList.Nodup then some (.rangef x ps.toList a' b') else none | _, _, _ => none
 | .exit id, _ => some (.exit id)
 | .ret, _ => some .ret
 | .label _, _ => some .skip
 | .scope c, h => kx P nt c h
 | _, _ => none
def jU6 (P : Program) (r : ResultVar) : Option R :=
 match r with
 | .tmp t => some (.t t)
 | .cell s t => (aggN P t).map (.cell s)
def xz (P : Program) : List ResultVar -> Option (List R)
 | [] => some []
 | r :: rs => match jU6 P r, xz P rs with | some a, some l => some (a :: l) | _, _ => none
end Go.AM
