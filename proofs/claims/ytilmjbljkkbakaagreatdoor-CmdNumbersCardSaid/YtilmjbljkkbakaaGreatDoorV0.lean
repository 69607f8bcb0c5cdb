/-
  A part of the proof: our library of the interpreter.
-/
import Derived.Orders
set_option linter.unusedSimpArgs false
set_option linter.unusedVariables false
set_option linter.unusedSectionVars false
set_option linter.unnecessarySimpa false
set_option linter.deprecated false
namespace Go.Wv

inductive Fl where
  | view | own
  deriving DecidableEq, Repr

/-- A value without addresses. -/
inductive VV where
  | lit (v : Value)
  | agg (cs : List VV)
  | tup (vs : List VV)
  | sl (f : Fl) (xs : List VV)
  | mref (id : Nat) (ag : Bool) (sz off n : Nat)
  | ptr (id off : Nat)
  | elp (cells : List VV) (off : Nat)
  | clo (fn : Fn) (first caps : List VV)
  | gone
  deriving Inhabited

def VV.cells : VV → List VV
  | .agg cs => cs
  | v => [v]

def ofCell : Value → VV
  | .slice none 0 0 => .sl .own []
  | .pointer none => .lit (.pointer none)
  | .bool b => .lit (.bool b)
  | .int k n => .lit (.int k n)
  | .string s => .lit (.string s)
  | .nilIface => .lit .nilIface
  | .nilFunc => .lit .nilFunc
  | _ => .gone

def isVal0 : VV → Bool
  | .gone => false
  | _ => true
def ofV : Value → VV
  | .agg cs => if (cs.toList.map ofCell).all isVal0 then .agg (cs.toList.map ofCell) else .gone
  | v => ofCell v

inductive Blk where
  | var (cs : List VV)
  | ro (cs : List VV)
  deriving Inhabited

def Blk.cells : Blk → List VV
  | .var cs => cs
  | .ro cs => cs

inductive VM where
  | view | own | ref
  deriving DecidableEq, Repr

structure Cfg where
  P : Program
  keep : FuncId → Nat → Option (List (Nat × Bool))
  join : FuncId → Nat → Option (List (Nat × Bool))
  own0 : TypeId → Option (List Nat)
  cut : FuncId → Nat → Option (List Nat)
  take : FuncId → Tmp → Bool
  argm : FuncId → Nat → VM
  resm : FuncId → VM
  raw : FuncId → Bool
  pure : FuncId → Bool
  glob : Nat → Option (List VV)
  fix : Nat → Option (Array Value)
  dyn : FuncId → Nat → List (Tmp × Tmp)
  ext : FuncId → Option (List VV → Option VV)

def aggT (P : Program) (t : TypeId) : Option Bool :=
  match P.underlying t with
  | some (.struct _) | some (.array _ _) => some true
  | some _ => some false
  | none => none
def szT (P : Program) (t : TypeId) : Nat := ((P.info? t).map (·.size)).getD 0
def byT (P : Program) (t : TypeId) : Nat := ((P.info? t).map (·.bytes)).getD 0
/-- A field's offset and size. -/
def fldT (P : Program) (s : TypeId) (f : Nat) : Option (Nat × Nat) :=
  match P.underlying s with
  | some (.struct fs) => match fs[f]? with
    | some x => if szT P x.type = 0 then none else some (x.offset, szT P x.type)
    | none => none
  | _ => none
/-- the types of a struct's fields are known -/
def fldsT (P : Program) (t : TypeId) : Bool :=
  match P.underlying t with
  | some (.struct fs) => fs.all fun f => (P.info? f.type).isSome
  | some (.array _ e) => szT P e != 0
  | _ => false
def elemT (P : Program) (t : TypeId) : Option TypeId :=
  match P.underlying t with
  | some (.slice e) => if szT P e = 0 then none else some e
  | _ => none
def arrT (P : Program) (t : TypeId) : Option (Nat × TypeId) :=
  match P.underlying t with
  | some (.array n e) => if szT P e = 0 then none else some (n, e)
  | _ => none
def strT (P : Program) (t : TypeId) : Bool := match P.underlying t with | some .string => true | _ => false
def intT (P : Program) (t : TypeId) : Option IntKind := match P.underlying t with | some (.int k) => some k | _ => none
def zeroT (P : Program) (t : TypeId) : Option VV := ((P.info? t).bind (·.zero)).map ofV

/-- a type's zero value has its cells -/
def zOk (P : Program) (t : TypeId) : Bool := match zeroT P t with
  | some z => isVal0 z && z.cells.length == szT P t
  | none => false

def getS (l : List VV) (i : Nat) : VV := l.getD i .gone
def putS (l : List VV) (d : Option Tmp) (v : VV) : List VV :=
  match d with
  | some i => l.set i v
  | none => l

def ownC : VV → Bool
  | .sl .own (_ :: _) => true
  | _ => false
def ownV : VV → Bool
  | .agg cs => cs.any ownC
  | v => ownC v
def isOwn : VV → Bool
  | .tup vs => vs.any ownV
  | v => ownV v
def viewC : VV → VV
  | .sl .own xs => .sl .view xs
  | v => v
def viewV : VV → VV
  | .agg cs => .agg (cs.map viewC)
  | v => viewC v
def toView : VV → VV
  | .tup vs => .tup (vs.map viewV)
  | v => viewV v

/-- Does a value lead to no block from n on? (What a slice holds leads to none at all.) -/
def okP (n : Nat) : VV → Bool
  | .ptr id _ => decide (id < n)
  | _ => true
def okC (n : Nat) : VV → Bool
  | .mref id _ _ _ _ => decide (id < n)
  | .ptr id _ => decide (id < n)
  | .clo _ a b => a.all (okP n) && b.all (okP n)
  | _ => true
def okV (n : Nat) : VV → Bool
  | .agg cs => cs.all (okC n)
  | v => okC n v
def okR (n : Nat) : VV → Bool
  | .tup vs => vs.all (okV n)
  | v => okV n v
def okRs (n : Nat) (l : List VV) : Bool := l.all (okR n)

/-- a value that may lie in memory -/
def isVal : VV → Bool
  | .gone => false
  | .tup _ => false
  | _ => true

/-- the first element has so many cells (the others have as many as the first) -/
def headOk (n : Nat) : List VV → Bool
  | [] => true
  | x :: _ => x.cells.length == n

def groupN (ag : Bool) (sz : Nat) : Nat → List VV → List VV
  | 0, _ => []
  | n + 1, cs => (if ag then .agg (cs.take sz) else cs.headD .gone) :: groupN ag sz n (cs.drop sz)

/-- What a slice of a block reads as; the block is not written any more. -/
def freezeC (B : List Blk) : VV → Option (VV × List Blk)
  | .mref id ag sz off n => match B[id]? with
    | some b => if (off + n) * sz ≤ b.cells.length ∧ 0 < sz ∧ (ag = true ∨ sz = 1) ∧ b.cells.all (fun c => okC 0 c && !ownC c) = true then some (.sl .view (groupN ag sz n (b.cells.drop (off * sz))), B.set id (.ro b.cells)) else none
    | none => none
  | v => some (viewC v, B)
def freezeL (B : List Blk) : List VV → Option (List VV × List Blk)
  | [] => some ([], B)
  | v :: vs => match freezeC B v with
    | some (v', B') => match freezeL B' vs with
      | some (vs', B'') => some (v' :: vs', B'')
      | none => none
    | none => none
def freeze (B : List Blk) : VV → Option (VV × List Blk)
  | .agg cs => match freezeL B cs with
    | some (cs', B') => some (.agg cs', B')
    | none => none
  | .tup _ => none
  | v => freezeC B v

def bytesVV (s : ByteArray) : List VV := s.data.toList.map fun b => .lit (.int .u8 b.toNat)

/-- a number that may be an index -/
def asIx : VV → Option Nat
  | .lit (.int _ i) => if 0 ≤ i then some i.toNat else none
  | _ => none

/-- what a cell holds -/
inductive CK where
  | bool | int | str
  deriving DecidableEq, Repr

/-- the cells of a struct's fields, from a place on -/
def ksF (P : Program) (rec : TypeId → Option (List CK)) : Nat → List Field → Option (List CK)
  | _, [] => some []
  | off, f :: fs => match rec f.type with
    | some m => if f.name = "_" ∨ f.offset ≠ off ∨ szT P f.type ≠ m.length ∨ m = [] then none else match ksF P rec (off + m.length) fs with
      | some l => some (m ++ l)
      | none => none
    | none => none
/-- The cells of a type that can be compared cell by cell. -/
def cellKs (P : Program) : Nat → TypeId → Option (List CK)
  | 0, _ => none
  | d + 1, t => match P.underlying t with
    | some .bool => some [.bool]
    | some (.int _) => some [.int]
    | some .string => some [.str]
    | some (.struct fs) => if P.stoodInHeld t then none else ksF P (cellKs P d) 0 fs.toList
    | _ => none
/-- The kinds of a struct's cells, if it can be compared so. -/
def eqT (P : Program) (t : TypeId) : Option (List CK) := if P.eqGuardType P.depth t || aggT P t != some true then none else cellKs P 6 t

def eqC : CK → VV → VV → Option Bool
  | .bool, .lit (.bool a), .lit (.bool b) => some (a == b)
  | .int, .lit (.int j a), .lit (.int k b) => if j = k then some (a == b) else none
  | .str, .lit (.string a), .lit (.string b) => some (a == b)
  | _, _, _ => none
def eqCs : List CK → List VV → List VV → Option Bool
  | [], [], [] => some true
  | k :: ks, a :: as, b :: bs => match eqC k a b, eqCs ks as bs with
    | some x, some y => some (x && y)
    | _, _ => none
  | _, _, _ => none

def intBin (op : BinOp) (k : IntKind) (a b : Int) : Option Value :=
  match op with
  | .add => some (.int k (k.wrap (a + b)))
  | .sub => some (.int k (k.wrap (a - b)))
  | .mul => some (.int k (k.wrap (a * b)))
  | .quo => if b = 0 then none else some (.int k (k.wrap (a.tdiv b)))
  | .rem => if b = 0 then none else some (.int k (a.tmod b))
  | .and => some (.int k (k.wrap (BitVec.ofInt k.bits a &&& BitVec.ofInt k.bits b).toNat))
  | .or => some (.int k (k.wrap (BitVec.ofInt k.bits a ||| BitVec.ofInt k.bits b).toNat))
  | .xor => some (.int k (k.wrap (BitVec.ofInt k.bits a ^^^ BitVec.ofInt k.bits b).toNat))
  | .andNot => some (.int k (k.wrap (BitVec.ofInt k.bits a &&& ~~~ BitVec.ofInt k.bits b).toNat))
  | .eql => some (.bool (a == b))
  | .neq => some (.bool (a != b))
  | .lss => some (.bool (decide (a < b)))
  | .leq => some (.bool (decide (a ≤ b)))
  | .gtr => some (.bool (decide (a > b)))
  | .geq => some (.bool (decide (a ≥ b)))
  | _ => none

def strBin (op : BinOp) (x y : ByteArray) : Option Value :=
  match op with
  | .add => if x.size + y.size ≤ 9223372036854775807 then some (.string (x ++ y)) else none
  | .eql => some (.bool (x == y))
  | .neq => some (.bool (!(x == y)))
  | .lss => some (.bool (Op.bytesLess x.toList y.toList))
  | .gtr => some (.bool (!(Op.bytesLess x.toList y.toList || x.toList == y.toList)))
  | .leq => some (.bool (Op.bytesLess x.toList y.toList || x.toList == y.toList))
  | .geq => some (.bool (!(Op.bytesLess x.toList y.toList)))
  | _ => none

def litBin (op : BinOp) : Value → Value → Option Value
  | .int k a, .int k' b => match op with
    | .shl => if b < 0 then none else some (.int k (k.wrap (a * 2 ^ (min b.toNat k.bits))))
    | .shr => if b < 0 then none else some (.int k (a.fdiv (2 ^ (min b.toNat k.bits))))
    | _ => if k = k' then intBin op k a b else none
  | .string a, .string b => strBin op a b
  | _, _ => none

def boolT (P : Program) (t : TypeId) : Bool := match P.underlying t with | some .bool => true | _ => false

def vbin (P : Program) (t : TypeId) (op : BinOp) : VV → VV → Option VV
  | .lit (.bool a), .lit (.bool b) => if boolT P t then (match op with
    | .eql => some (.lit (.bool (a == b)))
    | .neq => some (.lit (.bool (!(a == b))))
    | _ => none) else none
  | .lit a, .lit b => match litBin op a b with
    | some v => some (.lit v)
    | none => none
  | .agg as, .agg bs => match eqT P t with
    | some ks => match op, eqCs ks as bs with
      | .eql, some b => some (.lit (.bool b))
      | .neq, some b => some (.lit (.bool (!b)))
      | _, _ => none
    | none => none
  | _, _ => none

def vun (op : UnOp) : VV → Option VV
  | .lit (.bool b) => match op with
    | .not => some (.lit (.bool (!b)))
    | _ => none
  | .lit (.int k n) => match op with
    | .neg => some (.lit (.int k (k.wrap (0 - n))))
    | .xor => some (.lit (.int k (k.wrap (BitVec.ofInt k.bits (if k.signed then -1 else k.max) ^^^ BitVec.ofInt k.bits n).toNat)))
    | _ => none
  | _ => none

def lim : Nat := 70368744177664   -- 2^46

inductive Ex where
  | normal
  | exit (id : Nat)
  | ret
  deriving DecidableEq, Repr

section
variable (C : Cfg)

def ev (sl : List VV) : Operand → VV
  | .tmp t => getS sl t
  | .const v => ofV v
  | .global g => match C.glob g with
    | some cs => .elp cs 0
    | none => .gone
  | .func f => .lit (.func (.func f) #[] #[])

/-- An operand is handed on, with its right to append. -/
def tr (sl : List VV) : Operand → VV × List VV
  | .tmp t => let v := getS sl t; if isOwn v then (v, sl.set t (toView v)) else (v, sl)
  | x => (ev C sl x, sl)

def trL (sl : List VV) : List Operand → List VV × List VV
  | [] => ([], sl)
  | x :: xs => let (v, sl1) := tr C sl x; let (vs, sl2) := trL sl1 xs; (v :: vs, sl2)

def splice (cs : List VV) (off : Nat) (vs : List VV) : List VV := cs.take off ++ vs ++ cs.drop (off + vs.length)

def fillS (P : Program) (t : TypeId) (cs : List VV) : List (Nat × VV) → Option (List VV)
  | [] => some cs
  | (i, v) :: rest =>
    match (match arrT P t with
      | some (n, e) => if i < n then some (i * szT P e, szT P e) else none
      | none => fldT P t i) with
    | some (off, sz) => if isVal v = true ∧ v.cells.length = sz ∧ off + sz ≤ cs.length then fillS P t (splice cs off v.cells) rest else none
    | none => none

def setAt (sz : Nat) (xs : List VV) : List (Nat × VV) → Option (List VV)
  | [] => some xs
  | (i, v) :: rest => if i < xs.length ∧ isVal v = true ∧ okR 0 v = true ∧ v.cells.length = sz then setAt sz (xs.set i v) rest else none

/-- what stands at a place: a struct or array, or one cell -/
def readAt (P : Program) (t : TypeId) (cs : List VV) (off : Nat) : Option VV :=
  match aggT P t with
  | some true => if off + szT P t ≤ cs.length ∧ 0 < szT P t then some (.agg ((cs.drop off).take (szT P t))) else none
  | some false => cs[off]?
  | none => none

/-- what is read is a cell, or a struct's or array's cells -/
def cellOk (P : Program) (t : TypeId) (v : VV) : Bool :=
  match aggT P t with
  | some true => true
  | _ => match v with
    | .agg _ => false
    | .tup _ => false
    | _ => true

def appended : VV → Option (List VV)
  | .sl _ ys => some ys
  | _ => none

def vappend (P : Program) (t : TypeId) (base x : VV) : Option VV :=
  match elemT P t with
  | none => none
  | some e => match base, appended x with
    | .sl .own xs, some ys => if (xs.length + ys.length) * byT P e ≤ lim ∧ xs.length + ys.length ≤ lim ∧ zOk P e = true ∧ headOk (szT P e) xs = true ∧ headOk (szT P e) ys = true then some (.sl .own (xs ++ ys)) else none
    | _, _ => none

def bound (n : Nat) : Option VV → Option Nat
  | none => some n
  | some v => match asIx v with
    | some i => if i ≤ n then some i else none
    | none => none

def vslice (P : Program) (t : TypeId) (x : VV) (lo hi : Option VV) : Option VV :=
  match x with
  | .lit (.string s) => match bound s.size hi with
    | some h => match bound h (some (lo.getD (.lit (.int .i64 0)))) with
      | some l => if strT P t = true then some (.lit (.string (s.extract l h))) else none
      | none => none
    | none => none
  | .sl _ xs => match bound xs.length hi with
    | some h => match bound h (some (lo.getD (.lit (.int .i64 0)))) with
      | some l => match elemT P t with
        | some e => if headOk (szT P e) xs = true then some (.sl .view ((xs.drop l).take (h - l))) else none
        | none => none
      | none => none
    | none => none
  | .mref id ag sz off n => match bound n hi with
    | some h => match bound h (some (lo.getD (.lit (.int .i64 0)))) with
      | some l => match elemT P t with
        | some e => if szT P e = sz then (if l < h then some (.mref id ag sz (off + l) (h - l)) else some (.sl .view [])) else none
        | none => none
      | none => none
    | none => none
  | _ => none

def vlen (P : Program) (t : TypeId) : VV → Option VV
  | .lit (.string s) => if strT P t then some (.lit (.int .i64 s.size)) else none
  | .sl _ xs => match elemT P t with
    | some _ => some (.lit (.int .i64 xs.length))
    | none => none
  | .mref _ _ _ _ n => match elemT P t with
    | some _ => some (.lit (.int .i64 n))
    | none => none
  | _ => none

def vindexAddr (P : Program) (t : TypeId) (x i : VV) : Option VV :=
  match asIx i with
  | none => none
  | some i => match x with
    | .sl _ xs => match xs[i]? with
      | some v => match elemT P t with
        | some e => if v.cells.length = szT P e then some (.elp v.cells 0) else none
        | none => none
      | none => none
    | .mref id _ sz off n => match elemT P t with
      | some e => if i < n ∧ szT P e = sz then some (.ptr id ((off + i) * sz)) else none
      | none => none
    | .ptr id off => match arrT P t with
      | some (n, e) => if i < n then some (.ptr id (off + i * szT P e)) else none
      | none => none
    | .elp cs off => match arrT P t with
      | some (n, e) => if i < n then some (.elp cs (off + i * szT P e)) else none
      | none => none
    | _ => none

def vindex (P : Program) (t : TypeId) (x i : VV) : Option VV :=
  match asIx i with
  | none => none
  | some i => match x with
    | .lit (.string s) => if strT P t = true then (if h : i < s.size then some (.lit (.int .u8 (s[i]'h).toNat)) else none) else none
    | .agg cs => match arrT P t with
      | some (n, e) => if i < n then readAt P e cs (i * szT P e) else none
      | none => none
    | _ => none

/-- bytes as they lie in a slice -/
def bytesOf : List VV → Option (List UInt8)
  | [] => some []
  | .lit (.int .u8 n) :: r => match bytesOf r with
    | some l => if 0 ≤ n ∧ n ≤ 255 then some (UInt8.ofNat n.toNat :: l) else none
    | none => none
  | _ => none

def vconv (P : Program) (src dst : TypeId) (x : VV) : Option VV :=
  match x with
  | .lit (.int _ n) => match intT P src with
    | some _ => match intT P dst with
      | some k => some (.lit (.int k (k.wrap n)))
      | none => none
    | none => none
  | .lit (.string s) =>
    if strT P src then
      (if strT P dst then some (.lit (.string s))
       else match elemT P dst with
        | some e => match intT P e with
          | some .u8 => if s.size ≤ lim then some (.sl .view (bytesVV s)) else none
          | _ => none
        | none => none)
    else none
  | .sl _ xs => match elemT P src with
    | some e => match intT P e with
      | some .u8 => if strT P dst = true ∧ xs.length ≤ lim then (match bytesOf xs with
        | some bs => some (.lit (.string ⟨bs.toArray⟩))
        | none => none) else none
      | _ => none
    | none => none
  | _ => none

def vmin2 (mx : Bool) : VV → VV → Option VV
  | .lit (.int k x), .lit (.int _ y) => some (.lit (.int k (if mx then (if x < y then y else x) else (if y < x then y else x))))
  | _, _ => none
def vminL (mx : Bool) : VV → List VV → Option VV
  | x, [] => some x
  | x, y :: r => match vmin2 mx x y with
    | some z => vminL mx z r
    | none => none

/-- of a zero value's cells: which keep the right to append -/
def ownZ (ks : Option (List Nat)) (cs : List VV) : List VV := match ks with
  | none => cs
  | some ks => cs.mapIdx fun i c => if ks.contains i then c else viewC c

/-- An operation that is no call of a function with a text: what it yields, the slots, the blocks. -/
def vop (f : FuncId) (o : Oper) (sl : List VV) (B : List Blk) : Option (VV × List VV × List Blk) :=
  match o.op with
  | .move x => if (o.dst.map (C.take f)).getD false then (let (v, sl') := tr C sl x; some (v, sl', B)) else some (toView (ev C sl x), sl, B)
  | .assign x => let (v, sl') := tr C sl x; some (v, sl', B)
  | .pick c a b => match ev C sl c with
    | .lit (.bool t) => some (toView (ev C sl (if t then a else b)), sl, B)
    | _ => none
  | .alloc t => match zeroT C.P t with
    | some z => if isVal z = true then some (.ptr B.length 0, sl, B ++ [.var (ownZ (C.own0 t) z.cells)]) else none
    | none => none
  | .box t x => let (v, sl') := tr C sl x
    if isVal v = true ∧ v.cells.length = szT C.P t ∧ okR (B.length + 1) v = true then some (.ptr B.length 0, sl', B ++ [.var v.cells]) else none
  | .build t parts => match zeroT C.P t with
    | some z => let (vs, sl') := if (o.dst.map (C.take f)).getD false then trL C sl (parts.toList.map (·.2)) else (parts.toList.map (fun p => toView (ev C sl p.2)), sl)
      if fldsT C.P t = true ∧ isVal0 z = true then
        match fillS C.P t (ownZ (C.own0 t) z.cells) ((parts.toList.map (·.1)).zip vs) with
        | some cs => some (.agg cs, sl', B)
        | none => none
      else none
    | none => none
  | .buildSlice t len parts => match elemT C.P t with
    | some e => match zeroT C.P e with
      | some z => let vs := parts.toList.map fun p => (p.1, toView (ev C sl p.2))
        if isVal z = true ∧ z.cells.length = szT C.P e ∧ len * szT C.P e ≤ 16777216 then
          match setAt (szT C.P e) (List.replicate len (toView z)) vs with
          | some xs => some (.sl (if len = 0 then .view else .own) xs, sl, B)
          | none => none
        else none
      | none => none
    | none => none
  | .load t a => match ev C sl a with
    | .ptr id off => match B[id]? with
      | some b => match readAt C.P t b.cells off with
        | some v => if (o.dst.map (C.take f)).getD false then
            (match b with
             | .var cs => if cellOk C.P t v = true then some (v, sl, B.set id (.var (splice cs off (toView v).cells))) else none
             | .ro _ => none)
          else some (toView v, sl, B)
        | none => none
      | none => none
    | .elp cs off => match readAt C.P t cs off with
      | some v => some (v, sl, B)
      | none => none
    | _ => none
  | .store t a x => match ev C sl a with
    | .ptr id off => match B[id]? with
      | some (.var cs) => let (v, sl') := tr C sl x
        if isVal v = true ∧ v.cells.length = szT C.P t ∧ szT C.P t ≠ 0 ∧ off + szT C.P t ≤ cs.length ∧ okR (id + 1) v = true then
          some (.tup [], sl', B.set id (.var (splice cs off v.cells)))
        else none
      | _ => none
    | _ => none
  | .nilCheck x => match ev C sl x with
    | .ptr id off => some (.ptr id off, sl, B)
    | .elp cs off => some (.elp cs off, sl, B)
    | .clo (.func k) a b => some (.clo (.func k) a b, sl, B)
    | .lit (.func (.func g) a b) => some (.lit (.func (.func g) a b), sl, B)
    | _ => none
  | .binOp op t x y _ => match vbin C.P t op (ev C sl x) (ev C sl y) with
    | some v => some (v, sl, B)
    | none => none
  | .unOp op _ x => match vun op (ev C sl x) with
    | some v => some (v, sl, B)
    | none => none
  | .convert s d x => match vconv C.P s d (ev C sl x) with
    | some v => some (v, sl, B)
    | none => none
  | .makeSlice t l c => match asIx (ev C sl l), asIx (ev C sl c), elemT C.P t with
    | some l, some c, some e => match zeroT C.P e with
      | some z => match aggT C.P e with
        | some ag => if l ≤ c ∧ c ≤ lim ∧ c * byT C.P e ≤ lim ∧ isVal z = true ∧ z.cells.length = szT C.P e then
            some (.mref B.length ag (szT C.P e) 0 l, sl, B ++ [.var (List.replicate c z.cells).flatten])
          else none
        | none => none
      | none => none
    | _, _, _ => none
  | .slice t x lo hi mx => match mx with
    | none => match vslice C.P t (ev C sl x) (lo.map (ev C sl)) (hi.map (ev C sl)) with
      | some v => some (v, sl, B)
      | none => none
    | some _ => none
  | .fieldAddr s x i => match fldT C.P s i, ev C sl x with
    | some (fo, _), .ptr id off => some (.ptr id (off + fo), sl, B)
    | some (fo, _), .elp cs off => some (.elp cs (off + fo), sl, B)
    | _, _ => none
  | .indexAddr t x i => match vindexAddr C.P t (ev C sl x) (ev C sl i) with
    | some v => some (v, sl, B)
    | none => none
  | .index t x i => match vindex C.P t (ev C sl x) (ev C sl i) with
    | some v => some (viewV v, sl, B)
    | none => none
  | .extract x i => match x, ev C sl x with
    | .tmp t, .tup vs => match vs[i]? with
      | some v => if (o.dst.map (C.take f)).getD false then some (v, sl.set t (.tup (vs.set i (viewV v))), B) else some (viewV v, sl, B)
      | none => none
    | _, _ => none
  | .call { callee := .builtin b, args, argTypes } => match b with
    | .len => match args.toList, argTypes.toList with
      | [x], [t] => match vlen C.P t (ev C sl x) with
        | some v => some (v, sl, B)
        | none => none
      | _, _ => none
    | .append => match args.toList, argTypes.toList with
      | [x, y], [t, t'] => if t = t' then
          (let (v, sl') := tr C sl x
           match vappend C.P t v (ev C sl y) with
           | some r => some (r, sl', B)
           | none => none)
        else none
      | _, _ => none
    | .max => match args.toList with
      | x :: y :: r => match vminL true (ev C sl x) ((y :: r).map (ev C sl)) with
        | some v => some (v, sl, B)
        | none => none
      | _ => none
    | .min => match args.toList with
      | x :: y :: r => match vminL false (ev C sl x) ((y :: r).map (ev C sl)) with
        | some v => some (v, sl, B)
        | none => none
      | _ => none
    | _ => none
  | _ => none

/-- How an operation hangs on others: 0: on its operands alone; 1: it reads blocks; 3: it takes the right to append along; 4: it makes a block; 2: it does more. -/
def cls (f : FuncId) (o : Oper) : Nat :=
  match o.op with
  | .load _ _ => if (o.dst.map (C.take f)).getD false then 3 else 1
  | .move _ | .build _ _ | .extract _ _ => if (o.dst.map (C.take f)).getD false then 3 else 0
  | .assign _ => 3
  | .alloc _ => 4
  | .pick _ _ _ | .buildSlice _ _ _ | .nilCheck _ | .binOp _ _ _ _ _ | .unOp _ _ _ | .convert _ _ _ | .fieldAddr _ _ _ | .indexAddr _ _ _
  | .index _ _ _ | .slice _ _ _ _ _ => 0
  | .call { callee := .builtin b, .. } => match b with
    | .len | .min | .max => 0
    | .append => 3
    | _ => 2
  | .call { callee := .value (.func g), args, .. } => if C.pure g && (List.range args.size).all (fun i => C.argm g i != .own) then 0 else 2
  | _ => 2

def disj (a b : List Nat) : Bool := a.all fun x => !b.contains x

/-- x stands before y in the text; may y be done first? -/
def freePair (f : FuncId) (ops : Array Oper) (x y : Oper) : Bool :=
  x.apart ops y && (match cls C f x, cls C f y with
    | 0, 0 | 0, 1 | 1, 0 | 1, 1 | 0, 3 | 3, 0 | 1, 3 | 3, 1 | 0, 4 | 4, 0 | 1, 4 => true
    | 2, 0 | 0, 2 => disj (x.looksAt ops) (y.looksAt ops)
    | _, _ => false)

/-- two places in different blocks -/
def ptrNe : VV → VV → Bool
  | .ptr p _, .ptr q _ => p != q
  | _, _ => false
def dynAll (ds : List (Tmp × Tmp)) (sl : List VV) : Bool := ds.all fun p => ptrNe (getS sl p.1) (getS sl p.2)
/-- x, at i, reads a block, y, at j, writes one; the region's end shows that they are two; nobody else looks at the places -/
def lsPair (f : FuncId) (id : Nat) (ops : Array Oper) (i j : Nat) (x y : Oper) : Bool :=
  match x.op, y.op with
  | .load _ (.tmp a), .store _ (.tmp b) w => x.apart ops y && disj (x.looksAt ops) (y.looksAt ops) && x.guard.isNone && y.guard.isNone && y.dst.isNone && !(x.dst.map (C.take f)).getD false && (x.dst != some a) && (x.dst != some b) &&
      (match w with | .tmp s => s != b | _ => true) && (C.dyn f id).contains (a, b) && (List.range ops.size).all fun k => decide (k ≤ i) || k == j || (match ops[k]? with
        | some o => !(o.looksAt ops).contains a && !(o.looksAt ops).contains b && (o.dst != some a) && (o.dst != some b)
        | none => true)
  | _, _ => false

/-- May the operations of a region be done in any order that their edges let? -/
def drawOk (f : FuncId) (id : Nat) (ops : Array Oper) : Bool :=
  ((List.range ops.size).all fun j => match ops[j]? with
    | some y => y.after.all fun e => !Region.binds .any e || decide (e.on < j)
    | none => false) && (List.range ops.size).all fun j => (List.range j).all fun i => match ops[i]?, ops[j]? with
    | some x, some y => if (((C.cut f id).getD []).getD j 0).testBit i then y.after.any fun e => Region.binds .any e && (e.on == i || (decide (i < e.on) && (((C.cut f id).getD []).getD e.on 0).testBit i)) else freePair C f ops x y || lsPair C f id ops i j x y
    | _, _ => false

/-- the function that a call calls, and its arguments; what its arguments leave -/
def callee (sl : List VV) (c : Call) : Option (FuncId × List Operand × List VV) :=
  match c.callee with
  | .value x => match ev C sl x with
    | .lit (.func (.func g) a b) => if a.isEmpty && b.isEmpty then some (g, c.args.toList, []) else none
    | .clo (.func g) first caps => if first.isEmpty then some (g, c.args.toList, caps) else none
    | _ => none
  | _ => none

def vargs (g : FuncId) (sl : List VV) (B : List Blk) : Nat → List Operand → Option (List VV × List VV × List Blk)
  | _, [] => some ([], sl, B)
  | i, x :: xs => match C.argm g i with
    | .view => match freeze B (ev C sl x) with
      | some (v, B') => match vargs g sl B' (i + 1) xs with
        | some (vs, sl', B'') => some (v :: vs, sl', B'')
        | none => none
      | none => none
    | .own => let (v, sl1) := tr C sl x
      match vargs g sl1 B (i + 1) xs with
      | some (vs, sl', B'') => some (v :: vs, sl', B'')
      | none => none
    | .ref => match vargs g sl B (i + 1) xs with
      | some (vs, sl', B'') => some (toView (ev C sl x) :: vs, sl', B'')
      | none => none

def pargs (g : FuncId) (sl : List VV) : Nat → List Operand → List VV × List VV
  | _, [] => ([], sl)
  | i, x :: xs => match C.argm g i with
    | .own => let (v, sl1) := tr C sl x; let (vs, sl2) := pargs g sl1 (i + 1) xs; (v :: vs, sl2)
    | _ => let (vs, sl2) := pargs g sl (i + 1) xs; (toView (ev C sl x) :: vs, sl2)

def resL (sl : List VV) (B : List Blk) : List ResultVar → Option (List VV)
  | [] => some []
  | .tmp t :: rs => if isVal (getS sl t) = true then (match resL (tr C sl (.tmp t)).2 B rs with
    | some vs => some (getS sl t :: vs)
    | none => none) else none
  | .cell a t :: rs => match getS sl a with
    | .ptr id off => match B[id]? with
      | some b => match readAt C.P t b.cells off, resL sl B rs with
        | some v, some vs => some (toView v :: vs)
        | _, _ => none
      | none => none
    | _ => none

def freezeR (own : Bool) (B : List Blk) : List VV → Option (List VV × List Blk)
  | [] => some ([], B)
  | v :: vs => match (if own then some (v, B) else freeze B v) with
    | some (v', B') => match freezeR own B' vs with
      | some (vs', B'') => some (v' :: vs', B'')
      | none => none
    | none => none

def tuple1 : List VV → VV
  | [v] => v
  | vs => .tup vs

def firstRegion : Code → Nat
  | .region id _ _ => id
  | .seq a _ => firstRegion a
  | .block _ b => firstRegion b
  | .loop b => firstRegion b
  | .scope b => firstRegion b
  | _ => 0

def keepS (sl : List VV) (k : Nat × Bool) : VV := if k.2 = true then toView (getS sl k.1) else getS sl k.1
def mask (ks : List (Nat × Bool)) (n : Nat) (sl : List VV) : List VV := ks.foldl (fun acc k => acc.set k.1 (keepS sl k)) (List.replicate n .gone)

/-- What is kept at a loop's head, or where ways meet: some slots, the blocks before n. -/
def norm (ks : List (Nat × Bool)) (n : Nat) (sl : List VV) (B : List Blk) : Option (List VV × List Blk) :=
  if ks.all (fun k => okR n (getS sl k.1)) then some (mask ks sl.length sl, B.take n) else none

/-- where ways meet -/
def joinS (f : FuncId) (b : Code) (sl : List VV) (B : List Blk) : Option (List VV × List Blk) :=
  match C.join f (firstRegion b) with
  | none => some (sl, B)
  | some ks => norm ks B.length sl B

mutual
def vcode : Nat → FuncId → Code → List VV → List Blk → Option (Ex × List VV × List Blk)
  | 0, _, _, _, _ => none
  | k + 1, f, c, sl, B => match c with
    | .skip => some (.normal, sl, B)
    | .ret => some (.ret, sl, B)
    | .exit i => some (.exit i, sl, B)
    | .seq a b => match vcode k f a sl B with
      | some (.normal, sl', B') => match joinS C f b sl' B' with
        | some (sl1, B1) => vcode k f b sl1 B1
        | none => none
      | r => r
    | .cond x a b => match ev C sl x with
      | .lit (.bool t) => if t then vcode k f a sl B else vcode k f b sl B
      | _ => none
    | .block i b => match vcode k f b sl B with
      | some (.exit j, sl', B') => if j = i then some (.normal, sl', B') else some (.exit j, sl', B')
      | r => r
    | .region id ops draw => if draw && !drawOk C f id ops then none else match vops k f ops ops.toList sl B with
      | some (e, sl', B') => if dynAll (C.dyn f id) sl' then some (e, sl', B') else none
      | none => none
    | .loop b => match C.keep f (firstRegion b) with
      | none => none
      | some ks => match norm ks B.length sl B with
        | some (sl1, B1) => vloop k f b ks B.length sl1 B1
        | none => none
    | _ => none
def vloop : Nat → FuncId → Code → List (Nat × Bool) → Nat → List VV → List Blk → Option (Ex × List VV × List Blk)
  | 0, _, _, _, _, _, _ => none
  | k + 1, f, b, ks, n, sl, B => match vcode k f b sl B with
    | some (.normal, sl', B') => match norm ks n sl' B' with
      | some (sl1, B1) => vloop k f b ks n sl1 B1
      | none => none
    | r => r
def vops : Nat → FuncId → Array Oper → List Oper → List VV → List Blk → Option (Ex × List VV × List Blk)
  | 0, _, _, _, _, _ => none
  | _ + 1, _, _, [], sl, B => some (.normal, sl, B)
  | k + 1, f, ops, o :: rest, sl, B =>
    match (match o.guard with
      | none => some true
      | some (j, want) => match (ops[j]?).bind (·.dst) with
        | some d => match getS sl d with
          | .lit (.bool b) => some (b == want)
          | .tup [] => some false
          | _ => none
        | none => none) with
    | none => none
    | some false => vops k f ops rest (putS sl o.dst (.tup [])) B
    | some true => match o.op with
      | .call { callee := .value x, args, argTypes } => match callee C sl { callee := .value x, args, argTypes } with
        | none => none
        | some (g, as, caps) => if C.pure g then
            (let (vs, sl') := pargs C g sl 0 as
             if okRs 0 vs && okRs 0 caps then
               match vcall k g (vs ++ caps) [] with
               | none => none
               | some (r, _) => vops k f ops rest (putS sl' o.dst r) B
             else none)
          else match vargs C g sl B 0 as with
          | none => none
          | some (vs, sl', B') => match vcall k g (vs ++ caps) B' with
            | none => none
            | some (r, B'') => vops k f ops rest (putS sl' o.dst r) B''
      | _ => match vop C f o sl B with
        | none => none
        | some (v, sl', B') => vops k f ops rest (putS sl' o.dst v) B'
def vcall : Nat → FuncId → List VV → List Blk → Option (VV × List Blk)
  | 0, _, _, _ => none
  | k + 1, g, args, B => match C.ext g with
    | some e => match e args with
      | some v => some (v, B)
      | none => none
    | none => match C.P.funcs[g]? with
      | none => none
      | some fn => match fn.body with
        | none => none
        | some c => match vcode k g c (args ++ List.replicate (fn.ntmps - args.length) (.tup [])) B with
          | some (.exit _, _, _) => none
          | none => none
          | some (_, sl, B') => match resL C sl B' fn.results.toList with
            | none => none
            | some vs => if C.raw g then some (tuple1 vs, B') else
              match freezeR (C.resm g == .own) B' vs with
              | none => none
              | some (vs', B'') => if okRs B.length vs' then some (tuple1 vs', B''.take B.length) else none
end
end
end Go.Wv
