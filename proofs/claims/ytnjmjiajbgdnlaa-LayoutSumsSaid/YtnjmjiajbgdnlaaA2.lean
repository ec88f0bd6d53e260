/- From the model's code to the little machine's. -/
import Derived.Test.YtnjmjiajbgdnlaaA1
set_option linter.all false
namespace Go.AM
open Go

def szOf (P : Program) (t : TypeId) : Option Nat := (P.info? t).map (·.size)

/-- How many cells, if it is a struct or an array; none: one cell. -/
def aggN (P : Program) (t : TypeId) : Option (Option Nat) :=
  match P.underlying t, P.info? t with
  | some (.struct _), some i | some (.array _ _), some i => if i.size = 0 then none else some (some i.size)
  | some .bool, some i | some (.int _), some i | some .string, some i | some (.slice _), some i | some (.func _ _ _), some i | some (.pointer _), some i => if i.size = 1 then some none else none
  | _, _ => none

def constD (P : Program) (t : TypeId) : Value → Option D
  | .int k n => some (.int k n)
  | .bool b => some (.bool b)
  | .string s => some (.str s.data.toList)
  | .slice none 0 0 => match P.underlying t with
    | some (.slice e) => (szOf P e).map fun n => .ls n []
    | _ => none
  | .nilFunc | .pointer none => some .nil
  | _ => none

def opX (P : Program) (t : TypeId) : Operand → Option X
  | .tmp s => some (.t s)
  | .const v => (constD P t v).map .c
  | .global g => some (.c (.glob g 0))
  | .func f => some (.c (.fn f []))

/-- A type's zero, cell by cell. -/
def zeroD (P : Program) : Nat → TypeId → Option (List D)
  | 0, _ => none
  | d + 1, t => match P.underlying t with
    | some (.int k) => some [.int k 0]
    | some .bool => some [.bool false]
    | some .string => some [.str []]
    | some (.slice e) => (szOf P e).map fun n => [.ls n []]
    | some (.struct fs) => (fs.toList.mapM fun f => zeroD P d f.type).map List.flatten
    | some (.array n e) => (zeroD P d e).map fun z => (List.replicate n z).flatten
    | some (.func _ _ _) | some (.pointer _) => some [.nil]
    | _ => none

def repB : D → Value → Bool
  | .int k n, .int k' n' => kEq k k' && n == n'
  | .bool b, .bool b' => b == b'
  | .str s, .string s' => s == s'.data.toList
  | .ls _ [], .slice none 0 0 => true
  | .nil, .nilFunc | .nil, .pointer none => true
  | _, _ => false

def repsB : List D → List Value → Bool
  | [], [] => true
  | d :: l, v :: r => repB d v && repsB l r
  | _, _ => false

def zeroOf (P : Program) (t : TypeId) : Option (List D) :=
  match zeroD P 8 t, (P.info? t).bind (·.zero) with
  | some l, some z => if repsB l z.cells.toList then some l else none
  | _, _ => none

def intKind (P : Program) (t : TypeId) : Option IntKind := match P.underlying t with | some (.int k) => some k | _ => none

/-- The kinds of a struct's cells, if it may be compared cell by cell. -/
def cellKinds (P : Program) : Nat → List Field → Option (List CK)
  | _, [] => some []
  | j, f :: fs =>
    if f.offset = j ∧ f.name ≠ "_" ∧ szOf P f.type = some 1 then
      match P.underlying f.type, cellKinds P (j + 1) fs with
      | some .bool, some l => some (.b :: l)
      | some .string, some l => some (.s :: l)
      | some (.int k), some l => some (.i k :: l)
      | _, _ => none
    else none

def plainCells (P : Program) (t : TypeId) : Option (List CK) :=
  match P.underlying t with
  | some (.struct fs) => if P.eqGuardType P.depth t = false ∧ P.stoodInHeld t = false then cellKinds P 0 fs.toList else none
  | _ => none

def compEq (P : Program) (neg : Bool) (t : TypeId) (x y : Operand) : Option M := do
  let x' ← opX P t x
  let y' ← opX P t y
  match P.underlying t with
  | some .bool => some (.eqb neg false x' y')
  | some .string => some (.eqb neg true x' y')
  | some (.struct _) => (plainCells P t).map fun n => .eqS neg n x' y'
  | _ => none

def compBuiltin (P : Program) (b : Builtin) (args : List Operand) (ts : List TypeId) : Option M :=
  match b, args, ts with
  | .len, [x], [t] => match P.underlying t with
    | some (.slice _) => (opX P t x).map (.len false)
    | some .string => (opX P t x).map (.len true)
    | _ => none
  | .max, [x, y], [t, u] => do
    let _ ← intKind P t
    let _ ← intKind P u
    some (.mx (← opX P t x) (← opX P u y))
  | .min, [x, y], [t, u] => do
    let _ ← intKind P t
    let _ ← intKind P u
    some (.mn (← opX P t x) (← opX P u y))
  | .append, [x, y], [t, u] => match P.underlying t with
    | some (.slice e) => if t = u then do
        let i ← P.info? e
        let z ← i.zero
        if z.cells.size = i.size ∧ 0 < i.size ∧ i.bytes ≤ 64 then some (.app e i.size i.bytes (← opX P t x) (← opX P u y)) else none
      else none
    | _ => none
  | .copy, [x, y], [t, u] => match P.underlying t with
    | some (.slice e) => if t = u then do
        let i ← P.info? e
        if 0 < i.size then some (.cpy e i.size (← opX P t x) (← opX P u y)) else none
      else none
    | _ => none
  | _, _, _ => none

def opXs (P : Program) : List Operand → List TypeId → Option (List X)
  | [], [] => some []
  | x :: xs, t :: ts => match opX P t x, opXs P xs ts with | some a, some l => some (a :: l) | _, _ => none
  | _, _ => none

def compParts (P : Program) (fs : Nat → Option (Nat × TypeId)) : List (Nat × Operand) → Option (List (Nat × Option Nat × X))
  | [] => some []
  | (i, x) :: r => match fs i, compParts P fs r with
    | some (off, t), some l => match aggN P t, opX P t x with
      | some n, some x' => some ((off, n, x') :: l)
      | _, _ => none
    | _, _ => none

def compRows (P : Program) (t : TypeId) : Nat → List (Nat × Operand) → Option (List X)
  | _, [] => some []
  | n, (i, x) :: r => if i = n then match opX P t x, compRows P t (n + 1) r with | some x', some l => some (x' :: l) | _, _ => none else none

def opXo (P : Program) : Option Operand → Option (Option X)
  | none => some none
  | some x => match opX P 0 x with | some x' => some (some x') | none => none

def compM (P : Program) (ty : TypeId) : Op → Option M
  | .move (.const (.slice none 0 0)) | .assign (.const (.slice none 0 0)) => match P.underlying ty with
    | some (.slice e) => (szOf P e).map (.nilS e)
    | _ => none
  | .move x | .assign x => (opX P ty x).map (.mv false)
  | .pick c a b => match opX P ty c, opX P ty a, opX P ty b with
    | some c', some a', some b' => some (.pick c' a' b')
    | _, _, _ => none
  | .alloc t => (zeroOf P t).map .alloc
  | .box t x => match aggN P t, opX P t x with
    | some n, some x' => some (.box n.isSome x')
    | _, _ => none
  | .build t parts => match zeroOf P t, P.underlying t with
    | some z, some (.struct fs) => if (fs.toList.all fun f => (szOf P f.type).isSome) then (compParts P (fun i => fs[i]?.map fun f => (f.offset, f.type)) parts.toList).map (.bld z) else none
    | some z, some (.array _ e) => match szOf P e with
      | some s => (compParts P (fun i => some (i * s, e)) parts.toList).map (.bld z)
      | none => none
    | _, _ => none
  | .buildSlice t n parts => match P.underlying t with
    | some (.slice e) => match szOf P e, aggN P e, compRows P e 0 parts.toList with
      | some s, some a, some xs => if xs.length = n ∧ 0 < s ∧ n * s ≤ 4096 ∧ ((P.info? e).bind (·.zero)).isSome then some (.bsl none e s a xs) else none
      | _, _, _ => none
    | _ => none
  | .load t x => match aggN P t, opX P 0 x with
    | some n, some x' => some (.ld n x')
    | _, _ => none
  | .store t a x => match aggN P t, opX P 0 a, opX P t x with
    | some n, some a', some x' => some (.st n a' x')
    | _, _, _ => none
  | .fieldAddr s x f => match P.underlying s, opX P 0 x with
    | some (.struct fs), some x' => match fs[f]? with
      | some f => match szOf P f.type with
        | some (_ + 1) => some (.fld f.offset x')
        | _ => none
      | none => none
    | _, _ => none
  | .indexAddr t x i => match P.underlying t, opX P t x, opX P 0 i with
    | some (.slice e), some x', some i' => match szOf P e with
      | some (s + 1) => some (.ixs (s + 1) x' i')
      | _ => none
    | some (.array n e), some x', some i' => match szOf P e with
      | some (s + 1) => some (.ixa n (s + 1) x' i')
      | _ => none
    | _, _, _ => none
  | .field t x f => match P.underlying t, opX P t x with
    | some (.struct fs), some x' => match fs[f]? with
      | some f => (aggN P f.type).map fun n => .part f.offset n x'
      | none => none
    | _, _ => none
  | .index t x i => match P.underlying t, opX P t x, opX P 0 i with
    | some (.array n e), some x', some i' => match szOf P e, aggN P e with
      | some s, some a => some (.ixv n s a x' i')
      | _, _ => none
    | some .string, some x', some i' => some (.sidx x' i')
    | _, _, _ => none
  | .binOp op t x y yt => match intKind P t with
    | some k => match opX P t x, opX P yt y with
      | some x', some y' => some (.bin op k x' y')
      | _, _ => none
    | none => match op with
      | .eql => compEq P false t x y
      | .neq => compEq P true t x y
      | .add => match P.underlying t, opX P t x, opX P t y with
        | some .string, some x', some y' => some (.cat x' y')
        | _, _, _ => none
      | _ => none
  | .unOp .not t x => (opX P t x).map .not
  | .unOp .neg t x => match intKind P t, opX P t x with
    | some k, some x' => some (.neg k x')
    | _, _ => none
  | .convert s d x => match intKind P s, intKind P d, opX P s x with
    | some _, some k, some x' => some (.conv k x')
    | _, _, some x' => match P.underlying s, P.underlying d with
      | some (.slice e), some .string => match intKind P e with | some .u8 => some (.b2s x') | _ => none
      | _, _ => none
    | _, _, _ => none
  | .nilCheck x => (opX P 0 x).map .chk
  | .makeFunc (.func f) first caps => if first.size = 0 then (opXs P caps.toList (List.replicate caps.size 0)).map (.clo f) else none
  | .makeSlice t l c => match P.underlying t, opX P 0 l, opX P 0 c with
    | some (.slice e), some l', some c' => match P.info? e, zeroOf P e, aggN P e with
      | some i, some z, some n => if 0 < i.size ∧ i.bytes ≤ 65536 ∧ z.length = i.size then some (.mks e i.size n z l' c') else none
      | _, _, _ => none
    | _, _, _ => none
  | .slice t x lo hi none => match P.underlying t, opX P t x, opXo P lo, opXo P hi with
    | some .string, some x', some lo', some hi' => some (.sst x' lo' hi')
    | some (.slice e), some x', some lo', some hi' => match szOf P e with
      | some (s + 1) => some (.sls false (s + 1) x' lo' hi')
      | _ => none
    | some (.array n e), some x', some lo', some hi' => match szOf P e with
      | some (s + 1) => some (.sla n (s + 1) x' lo' hi')
      | _ => none
    | _, _, _, _ => none
  | .call c => match c.callee with
    | .builtin b => compBuiltin P b c.args.toList c.argTypes.toList
    | .value (.func f) => (opXs P c.args.toList c.argTypes.toList).map (.call false f)
    | .value (.tmp s) => (opXs P c.args.toList c.argTypes.toList).map (.callv false (.t s))
    | _ => none
  | .extract x i => (opX P 0 x).map (.ext · i)
  | _ => none

def okDst (nt : Nat) : Option Nat → Bool
  | some d => decide (d < nt)
  | none => true

def compG (ops : Array Oper) : Option (Nat × Bool) → Option (Option (Nat × Bool))
  | none => some none
  | some (j, pol) => match (ops[j]?).bind (·.dst) with
    | some s => some (some (s, pol))
    | none => none

def compO (P : Program) (nt : Nat) (ops : Array Oper) (o : Oper) : Option O :=
  match compM P o.type o.op, okDst nt o.dst, compG ops o.guard with
  | some m, true, some g => some ⟨o.dst, g, m, none⟩
  | _, _, _ => none

def compOs (P : Program) (nt : Nat) (ops : Array Oper) : List Oper → Option (List O)
  | [] => some []
  | o :: os => match compO P nt ops o, compOs P nt ops os with | some a, some l => some (a :: l) | _, _ => none

/-- The slots that an operation looks at. -/
def xsl : X → List Nat
  | .t s => [s]
  | .c _ => []
def xsls : List X → List Nat
  | [] => []
  | x :: l => xsl x ++ xsls l
def xslo : Option X → List Nat
  | none => []
  | some x => xsl x
def msl : M → List Nat
  | .mv _ x | .box _ x | .ld _ x | .fld _ x | .part _ _ x | .not x | .neg _ x | .conv _ x | .len _ x | .ext x _ | .b2s x | .chk x => xsl x
  | .pick a b c => xsl a ++ (xsl b ++ xsl c)
  | .alloc _ | .nilS .. => []
  | .st _ a b | .ixs _ a b | .ixa _ _ a b | .ixv _ _ _ a b | .sidx a b | .bin _ _ a b | .cat a b | .eqb _ _ a b | .eqS _ _ a b | .mx a b | .mn a b | .app _ _ _ a b | .cpy _ _ a b | .mks _ _ _ _ a b => xsl a ++ xsl b
  | .sls _ _ x lo hi | .sst x lo hi | .sla _ _ x lo hi => xsl x ++ (xslo lo ++ xslo hi)
  | .bld _ ps => xsls (thirds ps)
  | .bsl _ _ _ _ l | .call _ _ l | .clo _ l => xsls l
  | .callv _ x l => xsl x ++ xsls l

/-- Does it change the own memory? -/
def isEff : M → Bool
  | .alloc _ | .nilS .. | .box .. | .st .. | .app .. | .cpy .. | .mks .. | .mv true _ | .call true _ _ | .callv true _ _ | .sls true .. => true
  | .bsl (some _) .. => true
  | _ => false

def hasN : List Nat → Nat → Bool
  | [], _ => false
  | s :: l, t => match s == t with | true => true | false => hasN l t

def gHas : Option (Nat × Bool) → Nat → Bool
  | none, _ => false
  | some (s, _), t => s == t

/-- Does a look at, or write, what b writes? -/
def touches (a : O) : Option Nat → Bool
  | none => false
  | some d => bO (hasN (msl a.m) d) (bO (gHas a.g d) (match a.dst with | some d' => d' == d | none => false))

/-- It looks at none of the own memory. -/
def pureM : M → Bool
  | .mv false _ | .pick .. | .fld .. | .ixa .. | .part .. | .ixv .. | .sidx .. | .bld .. | .bsl none .. | .bin .. | .cat .. | .eqb .. | .eqS .. | .not _ | .neg .. | .conv .. | .mx .. | .mn .. | .clo .. | .sst .. | .sla .. | .ext .. | .chk _ => true
  | _ => false
/-- What it looks at. -/
def looks (o : O) : Option (List Nat) := match pureM o.m with
  | true => some []
  | false => match o.m with
    | .ld .. | .ixs .. | .len .. => o.fp
    | _ => none
/-- What it writes. -/
def puts (o : O) : Option (List Nat) := match o.m with
  | .st .. => o.fp
  | _ => none
def meets : List Nat → List Nat → Bool
  | [], _ => false
  | x :: l, r => bO (hasN r x) (meets l r)
/-- Does a look at what e writes? -/
def memC (a e : O) : Bool := match looks a, puts e with
  | some [], _ => false
  | some l, some r => meets l r
  | _, _ => true

def conf (a b : O) : Bool := bO (touches a b.dst) (bO (touches b a.dst) (bO (bA (isEff a.m) (bO (isEff b.m) (memC b a))) (bA (isEff b.m) (bO (isEff a.m) (memC a b)))))

def insN (l : List Nat) (x : Nat) : List Nat := match hasN l x with | true => l | false => x :: l
def insAll : List Nat → List Nat → List Nat
  | l, [] => l
  | l, x :: r => insAll (insN l x) r
def nthL : List (List Nat) → Nat → List Nat
  | [], _ => []
  | l :: _, 0 => l
  | _ :: r, n + 1 => nthL r n

/-- All that comes ahead of an operation, by its edges. -/
def ancs (acc : List (List Nat)) : List Edge → List Nat
  | [] => []
  | e :: es => match Region.binds .any e with
    | true => insAll (insN (ancs acc es) e.on) (nthL acc e.on)
    | false => ancs acc es

/-- An operation against those ahead of it in the text (number i on). -/
def drawAhead (an : List Nat) (a : O) : Nat → List O → Bool
  | _, [] => true
  | i, b :: l => bA (match conf a b with | true => hasN an i | false => true) (drawAhead an a (i + 1) l)

def notWritten (g : Option (Nat × Bool)) : List O → Bool
  | [] => true
  | b :: l => bA (match b.dst with | some d => bN (gHas g d) | none => true) (notWritten g l)

/-- May these come in any order that their edges let? (done: those ahead.) -/
def drawB : List (List Nat) → List O → List Oper → List O → Bool
  | _, _, [], [] => true
  | acc, done, o :: os, a :: as => bA (drawAhead (ancs acc o.after.toList) a 0 done) (bA (notWritten a.g (a :: as)) (drawB (acc ++ [ancs acc o.after.toList]) (done ++ [a]) os as))
  | _, _, _, _ => false

/-- Edges go back. -/
def backE (i : Nat) : List Edge → Bool
  | [] => true
  | e :: es => bA (match Region.binds .any e with | true => Nat.blt e.on i | false => true) (backE i es)
def backB : Nat → List Oper → Bool
  | _, [] => true
  | i, o :: os => bA (backE i o.after.toList) (backB (i + 1) os)

/-- The code; the hints (h) are looked at for the order alone. -/
def compC (P : Program) (nt : Nat) : Code → C → Option C
  | .skip, _ => some .skip
  | .region _ ops d, .reg _ h _ => match compOs P nt ops ops.toList with
    | some l => match bO (bN d) (bA (drawB [] [] ops.toList h) (backB 0 ops.toList)) with
      | true => some (.reg d l none)
      | false => none
    | none => none
  | .seq a b, .seq ha hb => match compC P nt a ha, compC P nt b hb with | some x, some y => some (.seq x y) | _, _ => none
  | .cond c a b, .ite _ ha hb => match opX P 0 c, compC P nt a ha, compC P nt b hb with | some c', some x, some y => some (.ite c' x y) | _, _, _ => none
  | .block id c, .blk _ h => (compC P nt c h).map (.blk id)
  | .loop c, .loop h => (compC P nt c h).map .loop
  | .exit id, _ => some (.exit id)
  | .ret, _ => some .ret
  | .label _, _ => some .skip
  | _, _ => none

def compR (P : Program) (r : ResultVar) : Option R :=
  match r with
  | .tmp t => some (.t t)
  | .cell s t => (aggN P t).map (.cell s)

def compRs (P : Program) : List ResultVar → Option (List R)
  | [] => some []
  | r :: rs => match compR P r, compRs P rs with | some a, some l => some (a :: l) | _, _ => none
end Go.AM
