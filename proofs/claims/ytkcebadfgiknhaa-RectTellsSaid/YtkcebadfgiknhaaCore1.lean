/- The little machine: data, code, and what a piece of code asks (no program in sight). -/
import Derived.WalkKit
set_option linter.all false
namespace Go.AM

/-- Data. -/
inductive D where
  | int (k : IntKind) (n : Int)
  | bool (b : Bool)
  | str (s : ByteArray)
  | agg (l : List D)
  | tup (l : List D)
  | ls (sz : Nat) (l : List D)
  | box (k off : Nat)
  | own (k ver : Nat)
  | el (sz : Nat) (l : List D) (i off : Nat)
  | elo (k ver sz i off : Nat)
  | any
  deriving Inhabited

/-- What a cell holds that may be compared. -/
inductive CK where
  | i (k : IntKind)
  | b
  | s

/-- Operands. -/
inductive X where
  | t (s : Nat)
  | c (d : D)

/-- Operations. -/
inductive M where
  | mv (x : X)
  | pick (c a b : X)
  | alloc (z : List D)
  | box (isA : Bool) (x : X)
  | ld (n : Option Nat) (x : X)
  | st (n : Option Nat) (p x : X)
  | fld (off : Nat) (x : X)
  | ixs (sz : Nat) (x i : X)
  | part (off : Nat) (n : Option Nat) (x : X)
  | ixv (len sz : Nat) (n : Option Nat) (x i : X)
  | bld (z : List D) (parts : List (Nat × Option Nat × X))
  | bsl (sz : Nat) (n : Option Nat) (xs : List X)
  | bin (op : BinOp) (k : IntKind) (x y : X)
  | eqb (neg str : Bool) (x y : X)
  | eqS (neg : Bool) (ks : List CK) (x y : X)
  | not (x : X)
  | neg (k : IntKind) (x : X)
  | conv (k : IntKind) (x : X)
  | len (str : Bool) (x : X)
  | mx (x y : X)
  | mn (x y : X)
  | call (f : Nat) (xs : List X)
  | nilS (e : TypeId) (sz : Nat)
  | app (e : TypeId) (sz bytes : Nat) (x y : X)
  | ext (x : X) (i : Nat)

structure O where
  dst : Option Nat
  g : Option (Nat × Bool)
  m : M

inductive C where
  | skip
  | reg (draw : Bool) (ops : List O) (keep : Option (List Nat))
  | seq (a b : C)
  | ite (x : X) (a b : C)
  | blk (id : Nat) (c : C)
  | loop (c : C)
  | exit (id : Nat)
  | ret

/-- Without the lists of what is kept. -/
def C.bare : C → C
  | .reg d ops _ => .reg d ops none
  | .seq a b => .seq a.bare b.bare
  | .ite x a b => .ite x a.bare b.bare
  | .blk id c => .blk id c.bare
  | .loop c => .loop c.bare
  | c => c

inductive Ex where
  | nrm
  | exit (id : Nat)
  | ret

/-- What the own memory holds. -/
inductive Ent where
  | cells (l : List D)
  | arr (e : TypeId) (sz ver : Nat) (rows : List D)

/-- On which slots' tests a slot hangs. -/
abbrev G := List (Nat × Bool)

abbrev Env := List (Nat × G × D)

structure St where
  env : Env
  bx : List Ent

def get : Env → Nat → Option (G × D)
  | [], _ => none
  | (s, g, d) :: r, t => bif s == t then some (g, d) else get r t

/-! Bool's own words, by cases. -/
def bA : Bool → Bool → Bool | true, b => b | false, _ => false
def bO : Bool → Bool → Bool | true, _ => true | false, b => b
def bN : Bool → Bool | true => false | false => true
def bE : Bool → Bool → Bool | true, b => b | false, b => bN b

def memG : G → Nat → Bool → Bool
  | [], _, _ => false
  | (s, b) :: r, t, c => bO (bA (s == t) (bE b c)) (memG r t c)

def subG : G → G → Bool
  | [], _ => true
  | (s, b) :: r, g => bA (memG g s b) (subG r g)

def notInG : G → Nat → Bool
  | [], _ => true
  | (s, _) :: r, t => bA (bN (s == t)) (notInG r t)

/-- Is the slot's row newer than all slots that it hangs on? -/
def freshG (g : G) : Env → Nat → Bool
  | [], _ => false
  | (s, _, _) :: r, t => bif s == t then true else bA (notInG g s) (freshG g r t)

/-- A slot's datum, as it may be read under the tests g. -/
def rd (env : Env) (g : G) (s : Nat) : Option D :=
  match get env s with
  | none => none
  | some ([], d) => some d
  | some (h :: t, d) => bif bA (subG (h :: t) g) (freshG (h :: t) env s) then some d else none

/-- What the tests g say. -/
def hyps (env : Env) (g0 : G) : G → List Prop
  | [] => []
  | (s, pol) :: r => match rd env g0 s with
    | some (.bool b) => (b = pol) :: hyps env g0 r
    | _ => hyps env g0 r

def allP : List Prop → Prop → Prop
  | [], k => k
  | p :: ps, k => p ∧ allP ps k

def impP : List Prop → Prop → Prop
  | [], k => k
  | p :: ps, k => p → impP ps k

/-- The conditions, each under the tests. -/
def gob (hs : List Prop) : List Prop → List Prop
  | [] => []
  | p :: ps => impP hs p :: gob hs ps

def evX (env : Env) (g : G) : X → Option D
  | .c d => some d
  | .t s => rd env g s

def evL (env : Env) (g : G) : List X → Option (List D)
  | [] => some []
  | x :: xs =>
    match evX env g x, evL env g xs with
    | some d, some l => some (d :: l)
    | _, _ => none

def nth : List D → Nat → Option D
  | [], _ => none
  | d :: _, 0 => some d
  | _ :: l, n + 1 => nth l n

def setN : List D → Nat → D → Option (List D)
  | [], _, _ => none
  | _ :: l, 0, d => some (d :: l)
  | x :: l, n + 1, d => match setN l n d with | some l' => some (x :: l') | none => none

def setL : List D → Nat → List D → Option (List D)
  | l, _, [] => some l
  | l, o, d :: ds => match setN l o d with | some l' => setL l' (o + 1) ds | none => none

def takeN : List D → Nat → Option (List D)
  | _, 0 => some []
  | [], _ + 1 => none
  | d :: l, n + 1 => match takeN l n with | some r => some (d :: r) | none => none

def dropN : List D → Nat → List D
  | l, 0 => l
  | [], _ + 1 => []
  | _ :: l, n + 1 => dropN l n

/-- The part of so many cells (none: one cell, no struct). -/
def partD (l : List D) (off : Nat) : Option Nat → Option D
  | none => nth l off
  | some n => match takeN (dropN l off) n with | some r => some (.agg r) | none => none

def lenB : List D → Nat → Bool
  | [], 0 => true
  | [], _ + 1 => false
  | _ :: l, n + 1 => lenB l n
  | _ :: _, 0 => false

/-- A datum of one cell. -/
def isOne : D → Bool
  | .agg _ | .tup _ | .any => false
  | _ => true

/-- A part of a row: cell by cell of a struct; or the row itself. -/
def partOf (d : D) (off : Nat) (n : Option Nat) : Option D :=
  match d with
  | .agg l => partD l off n
  | d => match off, n, isOne d with | 0, none, true => some d | _, _, _ => none

/-- A value's cells. -/
def cellsD (n : Option Nat) (d : D) : Option (List D) :=
  match n with
  | none => bif isOne d then some [d] else none
  | some n => match d with
    | .agg l => bif lenB l n then some l else none
    | _ => none

/-- Are these rows of so many cells each? -/
def rowsOf (n : Option Nat) : List D → Bool
  | [] => true
  | d :: l => match cellsD n d with | some _ => rowsOf n l | none => false

def fillD : List D → List (Nat × Option Nat × X) → List D → Option (List D)
  | z, [], [] => some z
  | z, (off, n, _) :: r, d :: ds =>
    match cellsD n d with
    | some c => match setL z off c with | some z' => fillD z' r ds | none => none
    | none => none
  | _, _, _ => none

def thirds : List (Nat × Option Nat × X) → List X
  | [] => []
  | (_, _, x) :: r => x :: thirds r

def entN : List Ent → Nat → Option Ent
  | [], _ => none
  | e :: _, 0 => some e
  | _ :: l, n + 1 => entN l n

def setE : List Ent → Nat → Ent → List Ent
  | [], _, _ => []
  | _ :: l, 0, e => e :: l
  | x :: l, n + 1, e => x :: setE l n e

def sizeE : List Ent → Nat
  | [] => 0
  | _ :: l => sizeE l + 1

def addE : List Ent → Ent → List Ent
  | [], e => [e]
  | x :: l, e => x :: addE l e

def kEq : IntKind → IntKind → Bool
  | .i8, .i8 | .i16, .i16 | .i32, .i32 | .i64, .i64 | .u8, .u8 | .u16, .u16 | .u32, .u32 | .u64, .u64 => true
  | _, _ => false

def fits : IntKind → Int → Prop
  | .i8, n => -128 ≤ n ∧ n ≤ 127
  | .i16, n => -32768 ≤ n ∧ n ≤ 32767
  | .i32, n => -2147483648 ≤ n ∧ n ≤ 2147483647
  | .i64, n => -9223372036854775808 ≤ n ∧ n ≤ 9223372036854775807
  | .u8, n => 0 ≤ n ∧ n ≤ 255
  | .u16, n => 0 ≤ n ∧ n ≤ 65535
  | .u32, n => 0 ≤ n ∧ n ≤ 4294967295
  | .u64, n => 0 ≤ n ∧ n ≤ 18446744073709551615

/-- What one operation comes to. -/
inductive Res where
  | bad
  | ok (p : List Prop) (d : D) (bx : List Ent)
  | call (p : List Prop) (o : Bool) (f : Nat) (ds : List D)
  | row (p : List Prop) (l : List D) (i off : Nat) (n : Option Nat)
  | arr (p : List Prop) (l : List D) (i : Nat) (n : Option Nat)

/-- An operation on integers: what is to be shown, and the result. -/
def binI (op : BinOp) (k : IntKind) (x y : Int) (bx : List Ent) : Res :=
  match op with
  | .add => .ok [fits k (x + y)] (.int k (x + y)) bx
  | .sub => .ok [fits k (x - y)] (.int k (x - y)) bx
  | .mul => .ok [fits k (x * y)] (.int k (x * y)) bx
  | .quo => .ok [0 ≤ x ∧ 0 < y ∧ fits k (x / y)] (.int k (x / y)) bx
  | .rem => .ok [0 ≤ x ∧ 0 < y] (.int k (x % y)) bx
  | .shr => .ok [0 ≤ y ∧ y < k.bits] (.int k (x / 2 ^ y.toNat)) bx
  | .eql => .ok [] (.bool (decide (x = y))) bx
  | .neq => .ok [] (.bool (!decide (x = y))) bx
  | .lss => .ok [] (.bool (decide (x < y))) bx
  | .leq => .ok [] (.bool (decide (x ≤ y))) bx
  | .gtr => .ok [] (.bool (decide (y < x))) bx
  | .geq => .ok [] (.bool (decide (y ≤ x))) bx
  | _ => .bad

def isShr : BinOp → Bool
  | .shr => true
  | _ => false

def eqC : CK → D → D → Option Bool
  | .i k, .int k1 x, .int k2 y => bif bA (kEq k k1) (kEq k k2) then some (decide (x = y)) else none
  | .b, .bool x, .bool y => some (x == y)
  | .s, .str x, .str y => some (x == y)
  | _, _, _ => none

def eqAux : Bool → List CK → List D → List D → Option Bool
  | a, [], [], [] => some a
  | a, k :: ks, x :: l, y :: r => match eqC k x y with
    | some b => match eqAux b ks l r with | some c => some (a && c) | none => none
    | none => none
  | _, _, _, _ => none

def eqCs : List CK → List D → List D → Option Bool
  | [], [], [] => some true
  | k :: ks, x :: l, y :: r => match eqC k x y with | some a => eqAux a ks l r | none => none
  | _, _, _ => none

/-- .. or not. -/
def negB : Bool → Bool → Bool
  | true, b => !b
  | false, b => b

def scal : D → Bool
  | .int .. | .bool _ | .str _ => true
  | _ => false

def scalL : List D → Bool
  | [] => true
  | d :: l => scal d && scalL l

/-- A plain value, or a struct or a tuple of such: it holds no address. -/
def plain : D → Bool
  | .agg l | .tup l => scalL l
  | d => scal d

mutual
/-- No own memory in it. -/
def closed : D → Bool
  | .int .. | .bool _ | .str _ | .ls .. => true
  | .agg l | .tup l => closedL l
  | _ => false
def closedL : List D → Bool
  | [] => true
  | d :: l => bA (closed d) (closedL l)
end

mutual
/-- What is handed on: own rows as plain ones. The Bool: was there one? -/
def lend (bx : List Ent) : D → Option (List Prop × Bool × D)
  | .int k n => some ([], false, .int k n)
  | .bool b => some ([], false, .bool b)
  | .str s => some ([], false, .str s)
  | .ls sz l => some ([], false, .ls sz l)
  | .own k ver => match entN bx k with
    | some (.arr _ sz ver' rows) => some ([ver = ver'], true, .ls sz rows)
    | _ => none
  | .agg l => match lendL bx l with | some (p, o, l') => some (p, o, .agg l') | none => none
  | .tup l => match lendL bx l with | some (p, o, l') => some (p, o, .tup l') | none => none
  | _ => none
def lendL (bx : List Ent) : List D → Option (List Prop × Bool × List D)
  | [] => some ([], false, [])
  | d :: l => match lend bx d with
    | some (p, o, d') => match lendL bx l with
      | some (q, o', l') => some (p ++ q, (match o with | true => true | false => o'), d' :: l')
      | none => none
    | none => none
end

/-- A load. -/
def stepLd (bx : List Ent) (n : Option Nat) : Option D → Res
  | some (.box k off) => match entN bx k with
    | some (.cells l) => match partD l off n with
      | some d => .ok [] d bx
      | none => .bad
    | _ => .bad
  | some (.el _ l i off) => .row [] l i off n
  | some (.elo k ver sz i off) => match entN bx k with
    | some (.arr _ sz' ver' rows) => .row [ver = ver' ∧ sz = sz'] rows i off n
    | _ => .bad
  | _ => .bad

def stepSt (bx : List Ent) (n : Option Nat) : Option D → Option D → Res
  | some (.box k off), some d => match entN bx k with
    | some (.cells l) => match cellsD n d with
      | some c => match setL l off c with
        | some l' => .ok [] .any (setE bx k (.cells l'))
        | none => .bad
      | none => .bad
    | _ => .bad
  | _, _ => .bad

def stepIxs (bx : List Ent) (sz : Nat) : Option D → Option D → Res
  | some (.ls sz' l), some (.int _ n) => .ok [sz = sz' ∧ 0 ≤ n ∧ n < l.length] (.el sz' l n.toNat 0) bx
  | some (.own k ver), some (.int _ n) => match entN bx k with
    | some (.arr _ sz' ver' rows) => .ok [ver = ver' ∧ sz = sz' ∧ 0 ≤ n ∧ n < rows.length] (.elo k ver sz n.toNat 0) bx
    | _ => .bad
  | _, _ => .bad

def stepLen (bx : List Ent) : Bool → Option D → Res
  | false, some (.ls _ l) => .ok [] (.int .i64 l.length) bx
  | true, some (.str s) => .ok [] (.int .i64 s.size) bx
  | false, some (.own k ver) => match entN bx k with
    | some (.arr _ _ ver' rows) => .ok [ver = ver'] (.int .i64 rows.length) bx
    | _ => .bad
  | _, _ => .bad

def stepApp (bx : List Ent) (e : TypeId) (sz : Nat) : Option D → Option D → Res
  | some (.own k ver), some (.ls sz' m) => match entN bx k with
    | some (.arr e' sz'' ver' rows) => .ok [ver = ver' ∧ e = e' ∧ sz = sz' ∧ sz = sz'' ∧ rows.length + m.length < 2147483648] (.own k (ver + 1)) (setE bx k (.arr e sz (ver + 1) (rows ++ m)))
    | _ => .bad
  | _, _ => .bad

def stepPick (env : Env) (g : G) (bx : List Ent) (s : Nat) : X → X → Res
  | .c (.bool true), b => match rd env g s, evX env ((s, false) :: g) b with
    | some (.bool c), some (.bool r) => .ok [] (.bool (c || r)) bx
    | _, _ => .bad
  | a, .c (.bool false) => match rd env g s, evX env ((s, true) :: g) a with
    | some (.bool c), some (.bool r) => .ok [] (.bool (c && r)) bx
    | _, _ => .bad
  | _, _ => .bad

/-- What one operation asks, and what it hands on. -/
def stepF (m : M) (g : G) (env : Env) (bx : List Ent) : Res :=
  match m with
  | .mv x => match evX env g x with | some d => .ok [] d bx | none => .bad
  | .pick (.t s) a b => stepPick env g bx s a b
  | .pick (.c _) _ _ => .bad
  | .alloc z => match g with
    | [] => .ok [] (.box (sizeE bx) 0) (addE bx (.cells z))
    | _ => .bad
  | .box isA x => match g with
    | [] => match isA, evX env [] x with
      | true, some (.agg l) => .ok [] (.box (sizeE bx) 0) (addE bx (.cells l))
      | false, some d => bif isOne d then .ok [] (.box (sizeE bx) 0) (addE bx (.cells [d])) else .bad
      | _, _ => .bad
    | _ => .bad
  | .ld n x => stepLd bx n (evX env g x)
  | .st n a x => match g with
    | [] => stepSt bx n (evX env [] a) (evX env [] x)
    | _ => .bad
  | .fld off x => match evX env g x with
    | some (.box k o) => .ok [] (.box k (o + off)) bx
    | some (.el sz l i o) => .ok [] (.el sz l i (o + off)) bx
    | some (.elo k v sz i o) => .ok [] (.elo k v sz i (o + off)) bx
    | _ => .bad
  | .ixs sz x i => stepIxs bx sz (evX env g x) (evX env g i)
  | .part off n x => match evX env g x with
    | some (.agg l) => match partD l off n with
      | some d' => .ok [] d' bx
      | none => .bad
    | _ => .bad
  | .ixv len sz n x i => match evX env g x, evX env g i with
    | some (.agg l), some (.int _ j) => .arr [0 ≤ j ∧ j < len] l (j.toNat * sz) n
    | _, _ => .bad
  | .bld z parts => match evL env g (thirds parts) with
    | some ds => match fillD z parts ds with
      | some l => .ok [] (.agg l) bx
      | none => .bad
    | none => .bad
  | .bsl sz n xs => match evL env g xs with
    | some ds => match bA (closedL ds) (rowsOf n ds) with
      | true => .ok [] (.ls sz ds) bx
      | false => .bad
    | none => .bad
  | .bin op k x y => match evX env g x, evX env g y with
    | some (.int k1 a), some (.int k2 b) => match kEq k k1, kEq k k2, isShr op with
      | true, true, _ => binI op k a b bx
      | true, _, true => binI op k a b bx
      | _, _, _ => .bad
    | _, _ => .bad
  | .eqb neg str x y => match str, evX env g x, evX env g y with
    | true, some (.str a), some (.str b) => .ok [] (.bool (negB neg (a == b))) bx
    | false, some (.bool a), some (.bool b) => .ok [] (.bool (negB neg (a == b))) bx
    | _, _, _ => .bad
  | .eqS neg ks x y => match evX env g x, evX env g y with
    | some (.agg a), some (.agg b) => match eqCs ks a b with
      | some e => .ok [] (.bool (negB neg e)) bx
      | none => .bad
    | _, _ => .bad
  | .not x => match evX env g x with | some (.bool b) => .ok [] (.bool (!b)) bx | _ => .bad
  | .neg k x => match evX env g x with | some (.int k1 n) => (match kEq k k1 with | true => .ok [fits k (-n)] (.int k (-n)) bx | false => .bad) | _ => .bad
  | .conv k x => match evX env g x with | some (.int _ n) => .ok [fits k n] (.int k n) bx | _ => .bad
  | .len str x => stepLen bx str (evX env g x)
  | .mx x y => match evX env g x, evX env g y with
    | some (.int k a), some (.int _ b) => .ok [] (.int k (max a b)) bx
    | _, _ => .bad
  | .mn x y => match evX env g x, evX env g y with
    | some (.int k a), some (.int _ b) => .ok [] (.int k (min a b)) bx
    | _, _ => .bad
  | .call f xs => match evL env g xs with
    | some ds => match lendL bx ds with
      | some (q, o, ds') => .call q o f ds'
      | none => .bad
    | none => .bad
  | .nilS e sz => match g with
    | [] => .ok [] (.own (sizeE bx) 0) (addE bx (.arr e sz 0 []))
    | _ => .bad
  | .app e sz _ x y => match g with
    | [] => stepApp bx e sz (evX env [] x) (evX env [] y)
    | _ => .bad
  | .ext x i => match evX env g x with
    | some (.tup l) => match nth l i with | some d => .ok [] d bx | none => .bad
    | _ => .bad

/-- The tests of an operation; none: they cannot be told. -/
def guardP (env : Env) : Option (Nat × Bool) → Option G
  | none => some []
  | some (s, pol) => match get env s with
    | some ([], .bool _) => some [(s, pol)]
    | some (h :: t, .bool _) => bif freshG (h :: t) env s then some ((s, pol) :: h :: t) else none
    | _ => none

def notInO (g : G) : Option Nat → Bool
  | none => true
  | some s => notInG g s

/-- .. none of which the operation writes. -/
def guardO (dst : Option Nat) : Option G → Option G
  | none => none
  | some g => match notInO g dst with | true => some g | false => none

def putE (dst : Option Nat) (g : G) (d : D) (env : Env) : Env :=
  match dst with
  | some s => (s, g, d) :: env
  | none => env

section
variable (Sp : Nat → List D → D → Prop)

def goOnR (R : St → Prop) (hs : List Prop) (dst : Option Nat) (g : G) (st : St) : Res → Prop
  | .bad => False
  | .ok p d bx => allP (gob hs p) (R ⟨putE dst g d st.env, bx⟩)
  | .call p own f ds => allP (gob hs p) (∃ d, impP hs (Sp f ds d) ∧ (own = true → plain d = true) ∧ R ⟨putE dst g d st.env, st.bx⟩)
  | .row p l i off n => allP (gob hs p) (∃ d d', impP hs (l[i]? = some d) ∧ partOf d off n = some d' ∧ R ⟨putE dst g d' st.env, st.bx⟩)
  | .arr p l i n => allP (gob hs p) (∃ d, impP hs (partD l i n = some d) ∧ R ⟨putE dst g d st.env, st.bx⟩)

def goGR (R : St → Prop) (o : O) (st : St) : Option G → Prop
  | none => False
  | some g => goOnR Sp R (hyps st.env g g) o.dst g st (stepF o.m g st.env st.bx)

def runOps : List O → (St → Prop) → St → Prop
  | [], K, st => K st
  | o :: os, K, st => goGR Sp (runOps os K) o st (guardO o.dst (guardP st.env o.g))

/-! The same, said in words that a walk can stand at. -/
def atCall (hs : List Prop) (own : Bool) (f : Nat) (ds : List D) (dst : Option Nat) (g : G) (os : List O) (st : St) (K : St → Prop) : Prop :=
  ∃ d, impP hs (Sp f ds d) ∧ (own = true → plain d = true) ∧ runOps Sp os K ⟨putE dst g d st.env, st.bx⟩
def atRow (hs : List Prop) (l : List D) (i off : Nat) (n : Option Nat) (dst : Option Nat) (g : G) (os : List O) (st : St) (K : St → Prop) : Prop :=
  ∃ d d', impP hs (l[i]? = some d) ∧ partOf d off n = some d' ∧ runOps Sp os K ⟨putE dst g d' st.env, st.bx⟩
def atArr (hs : List Prop) (l : List D) (i : Nat) (n : Option Nat) (dst : Option Nat) (g : G) (os : List O) (st : St) (K : St → Prop) : Prop :=
  ∃ d, impP hs (partD l i n = some d) ∧ runOps Sp os K ⟨putE dst g d st.env, st.bx⟩

theorem call_intro {hs : List Prop} {own : Bool} {f : Nat} {ds : List D} {dst : Option Nat} {g : G} {os : List O} {st : St} {K : St → Prop} (d : D) (h : impP hs (Sp f ds d)) (ho : own = true → plain d = true)
    (hk : runOps Sp os K ⟨putE dst g d st.env, st.bx⟩) : atCall Sp hs own f ds dst g os st K := ⟨d, h, ho, hk⟩
theorem row_intro {hs : List Prop} {l : List D} {i off : Nat} {n : Option Nat} {dst : Option Nat} {g : G} {os : List O} {st : St} {K : St → Prop} (d d' : D) (h : impP hs (l[i]? = some d)) (hp : partOf d off n = some d')
    (hk : runOps Sp os K ⟨putE dst g d' st.env, st.bx⟩) : atRow Sp hs l i off n dst g os st K := ⟨d, d', h, hp, hk⟩
theorem arr_intro {hs : List Prop} {l : List D} {i : Nat} {n : Option Nat} {dst : Option Nat} {g : G} {os : List O} {st : St} {K : St → Prop} (d : D) (h : impP hs (partD l i n = some d))
    (hk : runOps Sp os K ⟨putE dst g d st.env, st.bx⟩) : atArr Sp hs l i n dst g os st K := ⟨d, h, hk⟩
def goOn (os : List O) (K : St → Prop) (hs : List Prop) (dst : Option Nat) (g : G) (st : St) (r : Res) : Prop := goOnR Sp (runOps Sp os K) hs dst g st r
def goG (os : List O) (K : St → Prop) (o : O) (st : St) (g : Option G) : Prop := goGR Sp (runOps Sp os K) o st g

theorem runOps_nil (K : St → Prop) (st : St) : runOps Sp [] K st = K st := rfl
theorem runOps_cons (o : O) (os : List O) (K : St → Prop) (st : St) : runOps Sp (o :: os) K st = goG Sp os K o st (guardO o.dst (guardP st.env o.g)) := rfl
theorem goG_some (os : List O) (K : St → Prop) (o : O) (st : St) (g : G) : goG Sp os K o st (some g) = goOn Sp os K (hyps st.env g g) o.dst g st (stepF o.m g st.env st.bx) := rfl
theorem goOn_ok (os : List O) (K : St → Prop) (hs : List Prop) (dst : Option Nat) (g : G) (st : St) (p : List Prop) (d : D) (bx : List Ent) :
    goOn Sp os K hs dst g st (.ok p d bx) = allP (gob hs p) (runOps Sp os K ⟨putE dst g d st.env, bx⟩) := rfl
theorem goOn_call (os : List O) (K : St → Prop) (hs : List Prop) (dst : Option Nat) (g : G) (st : St) (p : List Prop) (own : Bool) (f : Nat) (ds : List D) :
    goOn Sp os K hs dst g st (.call p own f ds) = allP (gob hs p) (atCall Sp hs own f ds dst g os st K) := rfl
theorem goOn_row (os : List O) (K : St → Prop) (hs : List Prop) (dst : Option Nat) (g : G) (st : St) (p : List Prop) (l : List D) (i off : Nat) (n : Option Nat) :
    goOn Sp os K hs dst g st (.row p l i off n) = allP (gob hs p) (atRow Sp hs l i off n dst g os st K) := rfl
theorem goOn_arr (os : List O) (K : St → Prop) (hs : List Prop) (dst : Option Nat) (g : G) (st : St) (p : List Prop) (l : List D) (i : Nat) (n : Option Nat) :
    goOn Sp os K hs dst g st (.arr p l i n) = allP (gob hs p) (atArr Sp hs l i n dst g os st K) := rfl
end

def subE (env : Env) : Env → Prop
  | [] => True
  | (s, g, d) :: r => get env s = some (g, d) ∧ subE env r

def subB : List Ent → List Ent → Prop
  | _, [] => True
  | e :: l, f :: r => e = f ∧ subB l r
  | [], _ :: _ => False

mutual
def low (n : Nat) : D → Bool
  | .box k _ | .own k _ | .elo k _ _ _ _ => Nat.blt k n
  | .agg l | .tup l => lowL n l
  | _ => true
def lowL (n : Nat) : List D → Bool
  | [] => true
  | d :: l => low n d && lowL n l
end

/-- No test, and nothing of what comes behind. -/
def lowE (n : Nat) : Env → Bool
  | [] => true
  | (_, [], d) :: r => low n d && lowE n r
  | _ => false

def lowB (n : Nat) : List Ent → Bool
  | [] => true
  | .cells l :: r => lowL n l && lowB n r
  | .arr _ _ _ _ :: r => lowB n r

/-- Some of what is known is forgotten. -/
def Sub (st st' : St) : Prop := subE st.env st'.env ∧ subB st.bx st'.bx ∧ lowE (sizeE st'.bx) st'.env = true ∧ lowB (sizeE st'.bx) st'.bx = true

/-- The rows of some slots alone, in their order (those without a test). -/
def keepE (env : Env) : List Nat → Env
  | [] => []
  | s :: ks => match rd env [] s with
    | some d => (s, [], d) :: keepE env ks
    | none => keepE env ks

def keepS : Option (List Nat) → St → St
  | none, st => st
  | some ks, st => ⟨keepE st.env ks, st.bx⟩

def regK (ks : Option (List Nat)) (K : Ex → St → Prop) (st : St) : Prop := K .nrm (keepS ks st)
def blkK (id : Nat) (K : Ex → St → Prop) : Ex → St → Prop
  | .exit j, st' => bif j == id then K .nrm st' else K (.exit j) st'
  | .nrm, st' => K .nrm st'
  | .ret, st' => K .ret st'
def thenR (R : St → Prop) (K : Ex → St → Prop) : Ex → St → Prop
  | .nrm, st' => R st'
  | .exit j, st' => K (.exit j) st'
  | .ret, st' => K .ret st'
/-- Forgetting, if that helps. -/
def some' (I : St → Prop) (s : St) : Prop := I s ∨ ∃ s', Sub s s' ∧ I s'
def iteR (A B : Prop) : Option D → Prop
  | some (.bool c) => (c = true → A) ∧ (c = false → B)
  | _ => False

/-- No slot hangs on a test. -/
def plainB : Env → Bool
  | [] => true
  | (_, [], _) :: r => plainB r
  | _ => false

def ifB (b : Bool) (p : Prop) : Prop := match b with | true => p | false => False

section
variable (Sp : Nat → List D → D → Prop)

def run : C → (Ex → St → Prop) → St → Prop
  | .skip, K, st => K .nrm st
  | .reg _ ops ks, K, st => ifB (plainB st.env) (runOps Sp ops (regK ks K) st)
  | .seq a b, K, st => run a (thenR (run b K) K) st
  | .ite x a b, K, st => iteR (run a K st) (run b K st) (evX st.env [] x)
  | .blk id c, K, st => run c (blkK id K) st
  | .loop c, K, st => ∀ I : St → Prop, (∀ s, run c (thenR (some' I) K) s → I s) → some' I st
  | .exit id, K, st => K (.exit id) st
  | .ret, K, st => K .ret st

def thenK (b : C) (K : Ex → St → Prop) : Ex → St → Prop := thenR (run Sp b K) K
theorem thenK_nrm (b : C) (K : Ex → St → Prop) (st : St) : thenK Sp b K .nrm st = run Sp b K st := rfl
theorem thenK_exit (b : C) (K : Ex → St → Prop) (j : Nat) (st : St) : thenK Sp b K (.exit j) st = K (.exit j) st := rfl
theorem thenK_ret (b : C) (K : Ex → St → Prop) (st : St) : thenK Sp b K .ret st = K .ret st := rfl

theorem run_skip (K : Ex → St → Prop) (st : St) : run Sp .skip K st = K .nrm st := rfl
theorem run_reg (d : Bool) (ops : List O) (ks : Option (List Nat)) (K : Ex → St → Prop) (st : St) : run Sp (.reg d ops ks) K st = ifB (plainB st.env) (runOps Sp ops (regK ks K) st) := rfl
theorem ifB_true (p : Prop) : ifB true p = p := rfl
theorem run_seq (a b : C) (K : Ex → St → Prop) (st : St) : run Sp (.seq a b) K st = run Sp a (thenK Sp b K) st := rfl
theorem run_blk (id : Nat) (c : C) (K : Ex → St → Prop) (st : St) : run Sp (.blk id c) K st = run Sp c (blkK id K) st := rfl
theorem run_exit (id : Nat) (K : Ex → St → Prop) (st : St) : run Sp (.exit id) K st = K (.exit id) st := rfl
theorem run_ret (K : Ex → St → Prop) (st : St) : run Sp .ret K st = K .ret st := rfl
theorem run_ite (x : X) (a b : C) (K : Ex → St → Prop) (st : St) : run Sp (.ite x a b) K st = iteR (run Sp a K st) (run Sp b K st) (evX st.env [] x) := rfl
end

/-- Results. -/
inductive R where
  | t (s : Nat)
  | cell (s : Nat) (n : Option Nat)

def resD (st : St) : R → Option D
  | .t s => rd st.env [] s
  | .cell s n => match rd st.env [] s with
    | some (.box k off) => match entN st.bx k with
      | some (.cells l) => partD l off n
      | _ => none
    | _ => none

def resL (st : St) : List R → Option (List D)
  | [] => some []
  | r :: rs => match resD st r, resL st rs with
    | some d, some l => some (d :: l)
    | _, _ => none

def oneD : List D → D
  | [d] => d
  | l => .tup l

def retD (R : D → Prop) : Option (List Prop × Bool × D) → Prop
  | some (q, _, d) => allP q (R d)
  | none => False

def lendO (bx : List Ent) : Option (List D) → Option (List Prop × Bool × D)
  | some l => lend bx (oneD l)
  | none => none

def retK (rs : List R) (R : D → Prop) : Ex → St → Prop
  | .exit _, _ => False
  | .nrm, st => retD R (lendO st.bx (resL st rs))
  | .ret, st => retD R (lendO st.bx (resL st rs))

def env0 : Nat → List D → Env
  | _, [] => []
  | n, d :: l => (n, [], d) :: env0 (n + 1) l
end Go.AM
