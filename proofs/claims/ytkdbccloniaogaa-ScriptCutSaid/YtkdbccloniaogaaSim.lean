/- A second, plainer run of a program's code: over data in place of memory. What it computes, the code computes (SimSound). Conditions: none; definitions. -/
import Derived.Calls
import Derived.Orders
set_option linter.unusedVariables false
namespace Go.Proofs.YtkdbccloniaogaaS
open Go

/-- The kinds of cells. -/
inductive K where
  | int (k : IntKind) | bool | str | list (t : Nat) | fn | any
  deriving DecidableEq
/-- Data: what a value says, slices with all their elements (t: the elements' type; each element as its cells). -/
inductive PV where
  | undef
  | int (k : IntKind) (n : Int)
  | bool (b : Bool)
  | str (s : ByteArray)
  | list (t : Nat) (xs : List (List PV))
  | fn (f : Nat)
  | nilfn | nilp | nili
  | agg (cs : List PV)
  | tup (vs : List PV)
/-- Values of a run: data; slices whose capacity is their length (lit); addresses of variables of the run (ptr), slices that the run made (own), addresses of their elements (rpt) and of those of other slices (ept); function values. -/
inductive AV where
  | pv (p : PV)
  | lit (t : Nat) (xs : List (List PV))
  | ptr (id off : Nat)
  | own (id : Nat)
  | rpt (id i off : Nat)
  | ept (t : Nat) (xs : List (List PV)) (i off : Nat)
  | fn (f : Fn) (first cap : List AV)
  | iface (t : Nat) (v : AV)
  | agg (cs : List AV)
  | tup (vs : List AV)
/-- What lies in the run's own memory: a variable, cell by cell; a slice's array (mode 2: it may be written and appended to; 1: appended to; 0: neither). -/
inductive Ob where
  | box (cs : List AV)
  | row (m t : Nat) (xs : List (List PV))
abbrev Row := Nat × Nat × List (List PV)

structure St where
  tmps : List AV
  stack : List (Nat × Nat × List AV)
  mem : List (Nat × Ob)
  cur : Nat
  ctr : Nat
  fn : Nat
inductive Ex where
  | normal | exit (id : Nat) | goto (l : Nat) | ret
/-- Runs under tests that hang on data; a loop is waited for (s: where it begins, x: what it comes to). -/
inductive Tr (α : Type) where
  | ret (a : α)
  | test (b : Bool) (x y : Tr α)
  | wait (n : Nat) (c : Code) (s : St) (x : Option (Ex × St)) (k : Ex × St → Tr α)
  | fail
def Tr.bind {α β : Type} : Tr α → (α → Tr β) → Tr β
  | .ret a, f => f a
  | .test b x y, f => .test b (x.bind f) (y.bind f)
  | .wait n c s x k, f => .wait n c s x fun r => (k r).bind f
  | .fail, _ => .fail
def Tr.run {α : Type} : Tr α → Option α
  | .ret a => some a
  | .test b x y => bif b then x.run else y.run
  | .wait _ _ _ x k => x.bind fun r => (k r).run
  | .fail => none
/-- What an operation looks at, and what it writes. -/
inductive Key where
  | t (n : Nat) | c (id off n : Nat) | r (id : Nat) | n (id : Nat)
/-- Operations as programs that look at temporaries and at memory. -/
inductive Rd (α : Type) where
  | ret (a : α)
  | tmp (t : Nat) (k : AV → Rd α)
  | rng (id off n : Nat) (k : Option (List AV) → Rd α)
  | row (id : Nat) (k : Option Row → Rd α)
  | fresh (id : Nat) (k : Bool → Rd α)
  | test (b : Bool) (x y : Rd α)
  | fail
def Rd.bind {α β : Type} : Rd α → (α → Rd β) → Rd β
  | .ret a, f => f a
  | .tmp t k, f => .tmp t fun v => (k v).bind f
  | .rng id off n k, f => .rng id off n fun v => (k v).bind f
  | .row id k, f => .row id fun v => (k v).bind f
  | .fresh id k, f => .fresh id fun v => (k v).bind f
  | .test b x y, f => .test b (x.bind f) (y.bind f)
  | .fail, _ => .fail
structure View where
  tmp : Nat → AV
  find : Nat → Option Ob
def View.rng (v : View) (id off n : Nat) : Option (List AV) :=
  match v.find id with
  | some (.box cs) => if off + n ≤ cs.length then some ((cs.drop off).take n) else none
  | _ => none
def View.row (v : View) (id : Nat) : Option Row :=
  match v.find id with
  | some (.row m t xs) => some (m, t, xs)
  | _ => none
def View.fresh (v : View) (id : Nat) : Bool :=
  match v.find id with
  | some _ => false
  | none => true
/-- The run, and what was looked at. -/
def Rd.run {α : Type} (v : View) : Rd α → List Key → Tr (α × List Key)
  | .ret a, ks => .ret (a, ks)
  | .tmp t k, ks => (k (v.tmp t)).run v (.t t :: ks)
  | .rng id off n k, ks => (k (v.rng id off n)).run v (.c id off n :: ks)
  | .row id k, ks => (k (v.row id)).run v (.r id :: ks)
  | .fresh id k, ks => (k (v.fresh id)).run v (.n id :: ks)
  | .test b x y, ks => .test b (x.run v ks) (y.run v ks)
  | .fail, _ => .fail
/-- What an operation does to memory. -/
inductive Eff where
  | new (id : Nat) (o : Ob)
  | put (id off : Nat) (vs : List AV)
  | rset (id m t : Nat) (xs : List (List PV))
def Eff.key : Eff → Key
  | .new id _ => .n id
  | .put id off vs => .c id off vs.length
  | .rset id .. => .r id

def findOb (id : Nat) : List (Nat × Ob) → Option Ob
  | [] => none
  | (j, o) :: l => if j = id then some o else findOb id l
def setOb (id : Nat) (o : Ob) : List (Nat × Ob) → List (Nat × Ob)
  | [] => []
  | (j, p) :: l => if j = id then (j, o) :: l else (j, p) :: setOb id o l
def St.view (s : St) : View := ⟨fun t => s.tmps.getD t (.pv .undef), fun id => findOb id s.mem⟩
def splice {α : Type} (l : List α) (off : Nat) (vs : List α) : List α := l.take off ++ vs ++ l.drop (off + vs.length)
def Eff.on (m : List (Nat × Ob)) : Eff → List (Nat × Ob)
  | .new id o => (id, o) :: m
  | .put id off vs => match findOb id m with
    | some (.box cs) => setOb id (.box (splice cs off vs)) m
    | _ => m
  | .rset id md t xs => setOb id (.row md t xs) m
def St.put (s : St) (dst : Option Nat) (v : AV) : St :=
  match dst with
  | some d => { s with tmps := s.tmps.set d v }
  | none => s
def St.app (s : St) (dst : Option Nat) (p : AV × List Eff) : St := { s.put dst p.1 with mem := p.2.foldl Eff.on s.mem }

section types
variable (P : Program)
def sizeT (t : Nat) : Nat := match P.info? t with | some i => i.size | none => 0
def isAggT (t : Nat) : Bool := match P.underlying t with | some (.struct _) => true | some (.array _ _) => true | _ => false
def fieldT (s f : Nat) : Option (Nat × Nat) :=
  match P.underlying s with
  | some (.struct fs) => match fs[f]? with
    | some fd => some (fd.offset, fd.type)
    | none => none
  | _ => none
def elemT (t : Nat) : Option Nat := match P.underlying t with | some (.slice e) => some e | _ => none
def kindsT : Nat → Nat → List K
  | 0, _ => [.any]
  | n + 1, t => match P.underlying t with
    | some (.int k) => [.int k]
    | some .bool => [.bool]
    | some .string => [.str]
    | some (.slice e) => [.list e]
    | some (.func ..) => [.fn]
    | some (.struct fs) => fs.toList.flatMap fun f => kindsT n f.type
    | some (.array m e) => (List.replicate m (kindsT n e)).flatten
    | _ => [.any]
def kinds (t : Nat) : List K := kindsT P 20 t
end types
def pInt : PV → Int | .int _ n => n | _ => 0
def pBool : PV → Bool | .bool b => b | _ => false
def pStr : PV → ByteArray | .str s => s | _ => ByteArray.empty
def pList : PV → List (List PV) | .list _ xs => xs | _ => []
def eta : K → PV → PV
  | .int k, p => .int k (pInt p)
  | .bool, p => .bool (pBool p)
  | .str, p => .str (pStr p)
  | .list t, p => .list t (pList p)
  | _, p => p
def etas : List K → List PV → List PV
  | [], _ => []
  | k :: ks, l => eta k (l.headD .undef) :: etas ks l.tail
def zeroK : K → PV
  | .int k => .int k 0
  | .bool => .bool false
  | .str => .str ByteArray.empty
  | .list t => .list t []
  | .fn => .nilfn
  | .any => .undef
def zeros (P : Program) (t : Nat) : List PV := (kinds P t).map zeroK
def zeroA : K → AV
  | .list t => .lit t []
  | k => .pv (zeroK k)
def zeroB : K → Value → Bool
  | .int k, .int j n => decide (j = k) && n == 0
  | .bool, .bool b => !b
  | .str, .string s => s.size == 0
  | .list _, .slice none 0 0 => true
  | .fn, .nilFunc => true
  | .any, _ => true
  | _, _ => false
def zerosL : List K → List Value → Bool
  | [], [] => true
  | k :: ks, v :: vs => zeroB k v && zerosL ks vs
  | _, _ => false
/-- A type's zero is what its kinds say, and its size is theirs. -/
def zerosB (P : Program) (t : Nat) : Bool :=
  match P.info? t with
  | some i => match i.zero with
    | some z => zerosL (kinds P t) z.cells.toList && (kinds P t).length == i.size
    | none => false
  | none => false
def okE (P : Program) (t : Nat) : Bool := (kinds P t).length == sizeT P t && sizeT P t != 0
def ofCell : Value → AV
  | .bool b => .pv (.bool b)
  | .int k n => .pv (.int k n)
  | .string s => .pv (.str s)
  | .slice none 0 0 => .lit 0 []
  | .nilFunc => .pv .nilfn
  | .pointer none => .pv .nilp
  | .nilIface => .pv .nili
  | _ => .pv .undef
def ofVal : Value → AV
  | .agg cs => .agg (cs.toList.map ofCell)
  | .tuple vs => match vs.toList with
    | [] => .tup []
    | _ :: _ => .pv .undef
  | v => ofCell v
def ofPV1 : PV → AV
  | .agg cs => .agg (cs.map .pv)
  | p => .pv p
def ofPV : PV → AV
  | .tup vs => .tup (vs.map ofPV1)
  | p => ofPV1 p
def AV.cells : AV → List AV
  | .agg cs => cs
  | v => [v]
def PV.cells : PV → List PV
  | .agg cs => cs
  | v => [v]
/-- A value that is surely one cell. -/
def AV.one : AV → Bool
  | .pv .undef => false
  | .pv (.agg _) => false
  | .pv (.tup _) => false
  | .agg _ => false
  | .tup _ => false
  | _ => true

abbrev Re := Rd (AV × List Eff)
def okV (v : AV) : Re := .ret (v, [])
def chk {α : Type} (b : Bool) (k : Rd α) : Rd α := .test b k .fail
def rdO : Operand → Rd AV
  | .tmp t => .tmp t .ret
  | .const v => .ret (ofVal v)
  | .func f => .ret (.fn (.func f) [] [])
  | .global _ => .fail
def guardB {α : Type} (b : Bool) (k : Rd α) : Rd α := match b with | true => k | false => .fail
/-- A cell as data of a kind; with what that does to the array that it shares from now on. -/
def pur1 (k : K) (v : AV) : Rd (PV × List Eff) :=
  match k, v with
  | .int k, .pv (.int j n) => guardB (decide (j = k)) (.ret (.int k n, []))
  | .bool, .pv (.bool b) => .ret (.bool b, [])
  | .str, .pv (.str s) => .ret (.str s, [])
  | .list t, .pv (.list u xs) => guardB (u == t) (.ret (.list t xs, []))
  | .list t, .lit u xs => match u == t with
    | true => .ret (.list t xs, [])
    | false => match xs with
      | [] => .ret (.list t [], [])
      | _ :: _ => .fail
  | .list t, .own id => .row id fun r => match r with
    | some (m, u, xs) => guardB (u == t) (match m with
      | 0 => .ret (.list t xs, [])
      | 1 => .ret (.list t xs, [])
      | 2 => .ret (.list t xs, [.rset id 1 t xs])
      | _ => .fail)
    | none => .fail
  | .fn, .pv (.fn f) => .ret (.fn f, [])
  | .fn, .pv .nilfn => .ret (.nilfn, [])
  | .fn, .fn (.func f) [] [] => .ret (.fn f, [])
  | _, _ => .fail
def purs : List K → List AV → Rd (List PV × List Eff)
  | [], [] => .ret ([], [])
  | k :: ks, v :: vs => (pur1 k v).bind fun p => (purs ks vs).bind fun q => .ret (p.1 :: q.1, p.2 ++ q.2)
  | _, _ => .fail
def purV (P : Program) (t : Nat) (v : AV) : Rd (PV × List Eff) :=
  match isAggT P t, v with
  | true, .agg cs => (purs (kinds P t) cs).bind fun q => .ret (.agg q.1, q.2)
  | false, v => match kinds P t with
    | [k] => pur1 k v
    | _ => .fail
  | _, _ => .fail
def purArgs (P : Program) : List Nat → List AV → Rd (List PV × List Eff)
  | [], [] => .ret ([], [])
  | t :: ts, v :: vs => (purV P t v).bind fun p => (purArgs P ts vs).bind fun q => .ret (p.1 :: q.1, p.2 ++ q.2)
  | _, _ => .fail
/-- The elements of a slice. -/
def elems (v : AV) : Rd (Nat × List (List PV)) :=
  match v with
  | .pv (.list t xs) => .ret (t, xs)
  | .lit t xs => .ret (t, xs)
  | .own id => .row id fun r => match r with
    | some (_, t, xs) => .ret (t, xs)
    | none => .fail
  | _ => .fail

def arith (op : BinOp) (k : IntKind) (x y : Int) : Rd PV :=
  match op with
  | .add => .ret (.int k (k.wrap (x + y)))
  | .sub => .ret (.int k (k.wrap (x - y)))
  | .mul => .ret (.int k (k.wrap (x * y)))
  | .quo => chk (decide (y ≠ 0)) (.ret (.int k (k.wrap (x.tdiv y))))
  | .rem => chk (decide (y ≠ 0)) (.ret (.int k (x.tmod y)))
  | .and => .ret (.int k (k.wrap (BitVec.ofInt k.bits x &&& BitVec.ofInt k.bits y).toNat))
  | .or => .ret (.int k (k.wrap (BitVec.ofInt k.bits x ||| BitVec.ofInt k.bits y).toNat))
  | .xor => .ret (.int k (k.wrap (BitVec.ofInt k.bits x ^^^ BitVec.ofInt k.bits y).toNat))
  | .shl => chk (decide (0 ≤ y)) (.ret (.int k (k.wrap (x * 2 ^ (min y.toNat k.bits)))))
  | .shr => chk (decide (0 ≤ y)) (.ret (.int k (x.fdiv (2 ^ (min y.toNat k.bits)))))
  | .eql => .ret (.bool (x == y))
  | .neq => .ret (.bool (x != y))
  | .lss => .ret (.bool (decide (x < y)))
  | .leq => .ret (.bool (decide (x ≤ y)))
  | .gtr => .ret (.bool (decide (x > y)))
  | .geq => .ret (.bool (decide (x ≥ y)))
  | _ => .fail
def strOp (op : BinOp) (x y : ByteArray) : Rd PV :=
  match op with
  | .add => chk (decide (x.size + y.size ≤ 4611686018427387904)) (.ret (.str (x ++ y)))
  | .eql => .ret (.bool (x.toList == y.toList))
  | .neq => .ret (.bool !(x.toList == y.toList))
  | _ => .fail
/-- Whether two values of a type that compares are the same, cell by cell. -/
def eqCell : TypeDesc → List AV → List AV → Option Bool
  | .int _, [.pv (.int i x)], [.pv (.int j y)] => match decide (i = j) with | true => some (x == y) | false => none
  | .bool, [.pv (.bool x)], [.pv (.bool y)] => some (x == y)
  | .string, [.pv (.str x)], [.pv (.str y)] => some (x.toList == y.toList)
  | _, _, _ => none
def eqFs (P : Program) (eq : Nat → List AV → List AV → Option Bool) : List Field → List AV → List AV → Option Bool
  | [], _, _ => some true
  | f :: fs, xs, ys => match f.name != "_", eq f.type ((xs.drop f.offset).take (sizeT P f.type)) ((ys.drop f.offset).take (sizeT P f.type)), eqFs P eq fs xs ys with
    | true, some a, some b => some (a && b)
    | _, _, _ => none
def eqT (P : Program) : Nat → Nat → List AV → List AV → Option Bool
  | 0 => fun _ _ _ => none
  | d + 1 => fun t xs ys => match P.underlying t with
    | some (.struct fs) => match P.stoodInHeld t with
      | true => none
      | false => eqFs P (eqT P d) fs.toList xs ys
    | some td => eqCell td xs ys
    | none => none
def binA (P : Program) (op : BinOp) (t : Nat) (x y : AV) : Rd PV :=
  match x, y with
  | .pv (.int k a), .pv (.int j b) => match op with
    | .shl => arith .shl k a b
    | .shr => arith .shr k a b
    | _ => guardB (decide (k = j)) (arith op k a b)
  | .pv (.str a), .pv (.str b) => strOp op a b
  | .pv (.bool a), .pv (.bool b) => match op with
    | .eql => match P.underlying t with | some .bool => .ret (.bool (a == b)) | _ => .fail
    | .neq => match P.underlying t with | some .bool => .ret (.bool !(a == b)) | _ => .fail
    | _ => .fail
  | .agg xs, .agg ys => guardB (isAggT P t && !P.eqGuardType P.depth t) (match eqT P 20 t xs ys, op with
    | some b, .eql => .ret (.bool b)
    | some b, .neq => .ret (.bool !b)
    | _, _ => .fail)
  | _, _ => .fail
def unA (op : UnOp) (x : AV) : Rd PV :=
  match op, x with
  | .neg, .pv (.int k n) => .ret (.int k (k.wrap (0 - n)))
  | .not, .pv (.bool b) => .ret (.bool !b)
  | _, _ => .fail
def most : Nat := 1000000
/-- What an operation writes into a place of the frame 'fr'. -/
def idOf (fr : Nat) (dst : Option Nat) : Nat := fr * 1000 + dst.getD 999
def appMode (_ : List (List PV)) : Nat := 1
def appendTo (P : Program) (e fr : Nat) (dst : Option Nat) (s x : AV) : Re :=
  (elems x).bind fun y =>
  let id := idOf fr dst
  .fresh id fun fr => guardB (fr && zerosB P e && okE P e && decide ((match P.info? e with | some i => i.bytes | none => 0) ≤ 100000)) (match s with
    | .lit t xs => match xs with
      | [] => guardB (y.1 == e) (chk (decide (y.2.length ≤ most)) (.ret (.own id, [.new id (.row 2 y.1 y.2)])))
      | _ :: _ => guardB (t == y.1 && y.1 == e) (chk (decide (0 < y.2.length) && decide (xs.length + y.2.length ≤ most)) (.ret (.own id, [.new id (.row 2 t (xs ++ y.2))])))
    | .own j => .row j fun r => match r with
      | some (m, t, xs) => guardB (t == y.1 && y.1 == e && decide (m ≠ 0)) (chk (decide (xs.length + y.2.length ≤ most)) (.ret (.own id, [.rset j 0 t xs, .new id (.row (appMode xs) t (xs ++ y.2))])))
      | none => .fail
    | _ => .fail)
def boundI (v : Option AV) (d : Nat) : Rd Int :=
  match v with
  | none => .ret d
  | some (.pv (.int _ n)) => .ret n
  | _ => .fail
def optO : Option Operand → Rd (Option AV)
  | none => .ret none
  | some x => (rdO x).bind fun v => .ret (some v)
def isZero : Option Operand → Bool
  | some (.const (.int _ n)) => n == 0
  | _ => false
def sliceA (P : Program) (t : Nat) (x : AV) (lo hi : Option AV) : Re :=
  match P.underlying t, x with
  | some .string, .pv (.str s) => (boundI lo 0).bind fun l => (boundI hi s.size).bind fun h =>
    chk (decide (0 ≤ l) && decide (l ≤ h) && decide (h ≤ s.size)) (okV (.pv (.str (s.extract l.toNat h.toNat))))
  | some (.slice e), .pv (.list u xs) => cut e u xs []
  | some (.slice e), .lit u xs => cut e u xs []
  | some (.slice e), .own id => .row id fun r => match r with
    | some (m, u, xs) => match m with
      | 0 => cut e u xs []
      | 1 => cut e u xs []
      | 2 => cut e u xs [.rset id 1 u xs]
      | _ => .fail
    | none => .fail
  | _, _ => .fail
where
  cut (e u : Nat) (xs : List (List PV)) (es : List Eff) : Re := guardB (u == e && okE P e) ((boundI lo 0).bind fun l => (boundI hi xs.length).bind fun h =>
    chk (decide (0 ≤ l) && decide (l ≤ h) && decide (h ≤ xs.length)) (.ret (.pv (.list u ((xs.take h.toNat).drop l.toNat)), es)))
def fillA {α : Type} : List (Nat × List α) → List α → List α
  | [], cs => cs
  | (off, vs) :: l, cs => fillA l (splice cs off vs)
/-- The elements of a composite literal: all of them named, in order. -/
def partsP (P : Program) (e : Nat) : Nat → List (Nat × AV) → Rd (List (List PV) × List Eff)
  | _, [] => .ret ([], [])
  | i, (j, v) :: l => guardB (i == j) ((purV P e v).bind fun p => (partsP P e (i + 1) l).bind fun q => .ret (p.1.cells :: q.1, p.2 ++ q.2))
def rdParts : List (Nat × Operand) → Rd (List (Nat × AV))
  | [] => .ret []
  | (i, x) :: l => (rdO x).bind fun v => (rdParts l).bind fun r => .ret ((i, v) :: r)
def rdOs : List Operand → Rd (List AV)
  | [] => .ret []
  | x :: l => (rdO x).bind fun v => (rdOs l).bind fun r => .ret (v :: r)
/-- All fields' types are known. -/
def knownFs (P : Program) (t : Nat) : Bool :=
  match P.underlying t with
  | some (.struct fs) => fs.toList.all fun f => (P.info? f.type).isSome
  | _ => false
def notAny (P : Program) (t : Nat) : Bool := (kinds P t).all fun k => match k with | .any => false | _ => true
def fieldsP (P : Program) (t : Nat) : List (Nat × AV) → Option (List (Nat × List AV))
  | [] => some []
  | (i, v) :: l => match fieldT P t i, fieldsP P t l with
    | some (off, ft), some r => match v.cells.length == sizeT P ft && v.cells.all AV.one && decide (off + sizeT P ft ≤ (kinds P t).length) with
      | true => some ((off, v.cells) :: r)
      | false => none
    | _, _ => none

/-- Functions that are not walked into: when they may be called, and what they hand back. -/
inductive Res where
  | pv (p : PV)
  | fresh (t : Nat) (xs : List (List PV))
structure Ora where
  pre : List PV → Bool
  res : List PV → Res
structure Env where
  P : Program
  O : Nat → Option Ora
  /-- loops' heads: function, region behind the head: temporaries that are read behind it, places of variables, slices that get the places of their own -/
  L : Nat → Nat → Option ((List Nat × List Nat) × (List Nat × List Nat))
  N : Nat

def minL (a b : Int) : Int := if a ≤ b then a else b
def maxL (a b : Int) : Int := if a ≤ b then b else a
def intArgs : List AV → Option (IntKind × List Int)
  | [] => none
  | [.pv (.int k n)] => some (k, [n])
  | .pv (.int k n) :: l => match intArgs l with
    | some (j, r) => match decide (j = k) with
      | true => some (k, n :: r)
      | false => none
    | none => none
  | _ => none
def onCall (E : Env) (fr : Nat) (dst : Option Nat) (f : Nat) (vs : List AV) : Re :=
  match E.O f, E.P.funcs[f]? with
  | some o, some fn => guardB fn.body.isSome ((purArgs E.P fn.params.toList vs).bind fun ps =>
    chk (o.pre ps.1) (match o.res ps.1 with
      | .pv p => .ret (ofPV p, ps.2)
      | .fresh t xs => let id := idOf fr dst; .fresh id fun b => guardB b (.ret (.own id, ps.2 ++ [.new id (.row 2 t xs)]))))
  | _, _ => .fail
def builtinA (E : Env) (fr : Nat) (dst : Option Nat) (b : Builtin) (ts : List Nat) (vs : List AV) : Re :=
  match b, vs with
  | .len, [v] => match ts with
    | [t] => match E.P.underlying t, v with
      | some .string, .pv (.str s) => okV (.pv (.int .i64 s.size))
      | some (.slice _), v => (elems v).bind fun y => okV (.pv (.int .i64 y.2.length))
      | _, _ => .fail
    | _ => .fail
  | .append, [s, x] => match ts with
    | [t, u] => match elemT E.P t, elemT E.P u with
      | some e, some _ => appendTo E.P e fr dst s x
      | _, _ => .fail
    | _ => .fail
  | .max, [.pv (.int k x), .pv (.int j y)] => guardB (decide (k = j)) (okV (.pv (.int k (if x < y then y else x))))
  | .min, [.pv (.int k x), .pv (.int j y)] => guardB (decide (k = j)) (okV (.pv (.int k (if y < x then y else x))))
  | _, _ => .fail
def loadA (P : Program) (t : Nat) (a : AV) : Re :=
  guardB (P.underlying t).isSome (match a with
  | .ptr id off => .rng id off (sizeT P t) fun r => match r with
    | some cs => match isAggT P t, cs with
      | true, cs => okV (.agg cs)
      | false, [c] => okV c
      | _, _ => .fail
    | none => .fail
  | .ept u xs i off => fromEl (etas (kinds P u) (xs.getD i [])) off
  | .rpt id i off => .row id fun r => match r with
    | some (_, u, xs) => fromEl (etas (kinds P u) (xs.getD i [])) off
    | none => .fail
  | _ => .fail)
where
  fromEl (e : List PV) (off : Nat) : Re := match isAggT P t, (e.drop off).take (sizeT P t) with
    | true, cs => guardB (cs.length == sizeT P t) (okV (.agg (cs.map .pv)))
    | false, [c] => okV (.pv c)
    | _, _ => .fail
def notRow (id : Nat) : Eff → Bool
  | .rset j .. => !(j == id)
  | _ => false
def storeA (P : Program) (t : Nat) (a v : AV) : Re :=
  let cs := v.cells
  guardB (cs.length == sizeT P t && cs.all AV.one && (P.info? t).isSome) (match a with
    | .ptr id off => .rng id off cs.length fun r => match r with
      | some _ => .ret (.tup [], [.put id off cs])
      | none => .fail
    | .rpt id i off => .row id fun r => match r with
      | some (m, u, xs) => match m with
        | 2 => let ks := kinds P u
          (purs ((ks.drop off).take cs.length) cs).bind fun q => guardB (q.2.all (notRow id) && decide (off + cs.length ≤ ks.length)) (.ret (.tup [], q.2 ++ [.rset id 2 u (xs.set i (match q.1.length == ks.length with
            | true => q.1
            | false => splice (etas ks (xs.getD i [])) off q.1))]))
        | _ => .fail
      | none => .fail
    | _ => .fail)
def fieldA (off : Nat) : AV → Option AV
  | .ptr id o => some (.ptr id (o + off))
  | .rpt id i o => some (.rpt id i (o + off))
  | .ept t xs i o => some (.ept t xs i (o + off))
  | _ => none
def indexA (P : Program) (t : Nat) (x : AV) (i : Int) : Re :=
  match elemT P t, x with
  | some e, .pv (.list u xs) => guardB (u == e && okE P u) (chk (decide (0 ≤ i) && decide (i < xs.length)) (okV (.ept u xs i.toNat 0)))
  | some e, .lit u xs => guardB (u == e && okE P u) (chk (decide (0 ≤ i) && decide (i < xs.length)) (okV (.ept u xs i.toNat 0)))
  | some e, .own id => .row id fun r => match r with
    | some (_, u, xs) => guardB (u == e && okE P u) (chk (decide (0 ≤ i) && decide (i < xs.length)) (okV (.rpt id i.toNat 0)))
    | none => .fail
  | _, _ => .fail
def isU8 (P : Program) (e : Nat) : Bool := match P.underlying e with | some (.int .u8) => true | _ => false
/-- Bytes as a string. -/
def strOf (xs : List (List PV)) : ByteArray := (xs.map fun e => pInt (e.headD .undef)).foldl (fun r n => r.push (UInt8.ofNat n.toNat)) ByteArray.empty
def isRef : AV → Bool
  | .ptr .. | .rpt .. | .ept .. => true
  | .fn (.func _) _ _ => true
  | _ => false
/-- A method that takes a string's first byte off: named among the masks. -/
def isTak (E : Env) (g : Nat) : Bool := (E.L g 1000000).isSome
def takeA (id : Nat) : Re := .rng id 0 1 fun r => match r with
  | some [.pv (.str s)] => chk (decide (0 < s.size)) (.ret (.pv (.int .i64 ((s.get! 0).toNat : Int)), [.put id 0 [.pv (.str (s.extract 1 s.size))]]))
  | _ => .fail
/-- The operation o. -/
def evOp (E : Env) (fr : Nat) (o : Oper) : Re :=
  let P := E.P
  match o.op with
  | .move x | .assign x => (rdO x).bind okV
  | .pick c a b => (rdO c).bind fun c => match c with
    | .pv (.bool c) => (rdO a).bind fun a => (rdO b).bind fun b => .test c (okV a) (okV b)
    | _ => .fail
  | .alloc t => let id := idOf fr o.dst; .fresh id fun b => guardB (b && zerosB P t) (.ret (.ptr id 0, [.new id (.box ((kinds P t).map zeroA))]))
  | .box t x => (rdO x).bind fun v => let id := idOf fr o.dst; .fresh id fun b => guardB (b && v.cells.all AV.one) (.ret (.ptr id 0, [.new id (.box v.cells)]))
  | .build t parts => (rdParts parts.toList).bind fun vs => match fieldsP P t vs with
    | some ps => guardB (zerosB P t && knownFs P t) (okV (.agg (fillA ps ((kinds P t).map zeroA))))
    | none => .fail
  | .buildSlice t n parts => (rdParts parts.toList).bind fun vs => match elemT P t with
    | some e => guardB (vs.length == n && zerosB P e && okE P e && decide (n * sizeT P e ≤ 16777216)) ((partsP P e 0 vs).bind fun q => .ret (.lit e q.1, q.2))
    | none => .fail
  | .load t a => (rdO a).bind fun a => loadA P t a
  | .store t a x => (rdO a).bind fun a => (rdO x).bind fun v => storeA P t a v
  | .nilCheck x => (rdO x).bind fun v => guardB (isRef v) (okV v)
  | .binOp op t x y _ => (rdO x).bind fun x => (rdO y).bind fun y => (binA P op t x y).bind fun p => okV (.pv p)
  | .unOp op _ x => (rdO x).bind fun x => (unA op x).bind fun p => okV (.pv p)
  | .convert s d x => (rdO x).bind fun v => match P.underlying s, P.underlying d, v with
    | some (.int _), some (.int k), .pv (.int _ n) => okV (.pv (.int k (k.wrap n)))
    | some .string, some .string, .pv (.str s) => okV (.pv (.str s))
    | some (.slice e), some .string, v => guardB (isU8 P e) ((elems v).bind fun y => guardB (y.1 == e) (okV (.pv (.str (strOf y.2)))))
    | _, _, _ => .fail
  | .makeFunc f first cap => (rdOs first.toList).bind fun a => (rdOs cap.toList).bind fun b => okV (.fn f a b)
  | .makeSlice t l c => (rdO l).bind fun l => (rdO c).bind fun c => match elemT P t, l, c with
    | some e, .pv (.int _ n), .pv (.int _ m) => let id := idOf fr o.dst
      .fresh id fun b => guardB (b && zerosB P e && okE P e && notAny P e && decide ((match P.info? e with | some i => i.bytes | none => 0) ≤ 100000)) (chk (decide (0 ≤ n) && decide (n ≤ m) && decide (m ≤ most)) (.ret (.own id, [.new id (.row 2 e (List.replicate n.toNat (zeros P e)))])))
    | _, _, _ => .fail
  | .slice t x lo hi mx => (rdO x).bind fun x => match mx with
    | none => (optO lo).bind fun lo => (optO hi).bind fun hi => sliceA P t x lo hi
    | some _ => guardB (isZero mx && isZero hi && lo.isNone && (match elemT P t with | some e => okE P e | none => false)) ((elems x).bind fun y => okV (.lit y.1 []))
  | .fieldAddr s x f => (rdO x).bind fun v => match fieldT P s f with
    | some (off, ft) => guardB (sizeT P ft != 0) (match fieldA off v with
      | some w => okV w
      | none => .fail)
    | none => .fail
  | .field s x f => (rdO x).bind fun v => match fieldT P s f, v with
    | some (off, ft), .agg cs => guardB (P.underlying ft).isSome (match isAggT P ft, (cs.drop off).take (sizeT P ft) with
      | true, ds => guardB (ds.length == sizeT P ft) (okV (.agg ds))
      | false, [c] => okV c
      | _, _ => .fail)
    | _, _ => .fail
  | .indexAddr t x i => (rdO x).bind fun x => (rdO i).bind fun i => match i with
    | .pv (.int _ i) => indexA P t x i
    | _ => .fail
  | .index t x i => (rdO x).bind fun x => (rdO i).bind fun i => match P.underlying t, x, i with
    | some .string, .pv (.str s), .pv (.int _ i) => chk (decide (0 ≤ i) && decide (i < s.size)) (okV (.pv (.int .u8 (s.get! i.toNat).toNat)))
    | _, _, _ => .fail
  | .extract x k => (rdO x).bind fun v => match v with
    | .tup vs => match vs[k]? with
      | some v => okV v
      | none => .fail
    | _ => .fail
  | .makeInterface t x => (rdO x).bind fun v => match P.underlying t with
    | some (.interface _) => .fail
    | some _ => okV (.iface t v)
    | none => .fail
  | .call c => (rdOs c.args.toList).bind fun vs => match c.callee with
    | .builtin b => builtinA E fr o.dst b c.argTypes.toList vs
    | .value f => (rdO f).bind fun f => match f with
      | .fn (.func g) first [] => match isTak E g, first, vs with
        | true, [.ptr id 0], [] => takeA id
        | _, _, _ => onCall E fr o.dst g (first ++ vs)
      | .pv (.fn g) => onCall E fr o.dst g vs
      | _ => .fail
    | .invoke .. => .fail
  | _ => .fail
/-- Under its guard. -/
def evGuarded (E : Env) (fr : Nat) (ops : Array Oper) (o : Oper) : Re :=
  match o.guard with
  | none => evOp E fr o
  | some (j, want) => match (ops[j]?).bind (·.dst) with
    | some d => .tmp d fun v => match v with
      | .pv (.bool b) => match want with
        | true => .test b (evOp E fr o) (okV (.tup []))
        | false => .test b (okV (.tup [])) (evOp E fr o)
      | .tup [] => okV (.tup [])
      | _ => .fail
    | none => .fail

/-- A call that is walked into: its function, its arguments. -/
def walked (E : Env) (v : View) (o : Oper) : Option (Nat × Rd (List AV)) :=
  match o.op with
  | .call c => match c.callee with
    | .value f => match f with
      | .func g => match E.O g with
        | none => some (g, rdOs c.args.toList)
        | some _ => none
      | .tmp t => match v.tmp t with
        | .fn (.func g) first cap => match isTak E g with
          | true => none
          | false => match E.O g, cap with
            | some _, [] => none
            | _, _ => some (g, (rdOs c.args.toList).bind fun vs => .ret (first ++ vs ++ cap))
        | .pv (.fn g) => match E.O g with
          | none => some (g, rdOs c.args.toList)
          | some _ => none
        | _ => none
      | _ => none
    | _ => none
  | _ => none
def Key.hits : Key → Key → Bool
  | .t a, .t b => a == b
  | .c i o a, .c j p b => i == j && (decide (o < p + b) && decide (p < o + a))
  | .r i, .r j => i == j
  | .n i, .c j _ _ => i == j
  | .n i, .r j => i == j
  | .n i, .n j => i == j
  | _, _ => false
/-- The object that a write touches. -/
def Key.objOf : Key → Option Nat
  | .t _ => none
  | .c i _ _ => some i
  | .r i => some i
  | .n i => some i
def Key.clash (a b : Key) : Bool :=
  match a, b with
  | .t x, .t y => x == y
  | a, b => match a.objOf, b.objOf with
    | some x, some y => x == y
    | _, _ => false
def Eff.obj : Eff → Nat
  | .new id _ => id
  | .put id _ _ => id
  | .rset id _ _ _ => id
/-- Writes lie where there is something. -/
def Eff.fits (m : List (Nat × Ob)) : Eff → Bool
  | .new _ _ => true
  | .put id off vs => match findOb id m with
    | some (.box cs) => decide (off + vs.length ≤ cs.length)
    | _ => false
  | .rset id _ _ _ => match findOb id m with
    | some (.row _ _ _) => true
    | _ => false
def fitsAll : List (Nat × Ob) → List Eff → Bool
  | _, [] => true
  | m, e :: es => e.fits m && fitsAll (e.on m) es
/-- One of a region's operations, done: its number, what it looked at, what it wrote. -/
structure Done where
  i : Nat
  reads : List Key
  writes : List Key
def Done.apart (a b : Done) : Bool :=
  a.writes.all (fun w => b.reads.all (fun r => !w.hits r) && b.writes.all (fun x => !w.clash x)) && b.writes.all (fun w => a.reads.all (fun r => !w.hits r))
def Oper.waits (o : Oper) (j : Nat) : Bool := o.after.any fun e => Region.binds .any e && e.on == j
def apartAll (ops : Array Oper) : List Done → Bool
  | [] => true
  | d :: l => l.all (fun e => match ops[d.i]?, ops[e.i]? with
      | some o, some p => Oper.waits o e.i || Oper.waits p d.i || d.apart e
      | _, _ => false) && apartAll ops l
def textual (ops : Array Oper) : Bool :=
  (List.range ops.size).all fun i => match ops[i]? with
    | some o => o.after.all fun e => !Region.binds .any e || decide (e.on < i)
    | none => false
/-- Temporaries that hold the same as another one. -/
abbrev Al := List (Nat × Nat)
def Al.put (al : Al) (o : Oper) (v : AV) : Al :=
  match o.dst with
  | none => al
  | some d =>
    let al := al.filter fun p => !(p.1 == d) && !(p.2 == d)
    match o.op, v with
    | .move (.tmp t), .pv (.bool _) => match t == d with
      | true => al
      | false => (d, t) :: al
    | _, _ => al
def subs (al : Al) (d : Nat) (v : AV) (l : List AV) : List AV := al.foldl (fun l p => match p.2 == d with | true => l.set p.1 v | false => l) (l.set d v)
/-- A test of a temporary: behind it the temporary, and those that hold the same, hold its outcome. -/
def settle {α : Type} (s : St) (al : Al) (d : Nat) (k : St → Tr α) : Tr α :=
  match s.tmps.getD d (.pv .undef) with
  | .pv (.bool b) => .test b (k { s with tmps := subs al d (.pv (.bool true)) s.tmps }) (k { s with tmps := subs al d (.pv (.bool false)) s.tmps })
  | _ => k s
/-- What is tested ahead of an operation. -/
def askOf (ops : Array Oper) (o : Oper) : Option Nat :=
  match o.guard with
  | some (j, _) => (ops[j]?).bind (·.dst)
  | none => match o.op with
    | .pick (.tmp c) _ _ => some c
    | _ => none
def asked {α : Type} (ops : Array Oper) (o : Oper) (s : St) (al : Al) (k : St → Tr α) : Tr α :=
  match askOf ops o with
  | some d => settle s al d k
  | none => k s
def keysOf (dst : Option Nat) (es : List Eff) : List Key :=
  match dst with
  | some d => Key.t d :: es.map Eff.key
  | none => es.map Eff.key
def firstRegion : Code → Option Nat
  | .region id _ _ => some id
  | .seq a b => match firstRegion a with
    | some i => some i
    | none => firstRegion b
  | .block _ b => firstRegion b
  | .scope b => firstRegion b
  | .cond _ a b => match firstRegion a with
    | some i => some i
    | none => firstRegion b
  | .loop b => firstRegion b
  | _ => none
/-- What may not be named any more, and what gets another place. -/
def scrub1 (r : Nat → Option Nat) : AV → AV
  | .ptr id off => match r id with | some j => .ptr j off | none => .pv .undef
  | .own id => match r id with | some j => .own j | none => .pv .undef
  | .rpt id i off => match r id with | some j => .rpt j i off | none => .pv .undef
  | v => v
def flat1 : AV → Bool
  | .pv _ | .lit .. | .ptr .. | .own .. | .rpt .. | .ept .. => true
  | .fn _ [] [] => true
  | _ => false
def scrub (r : Nat → Option Nat) : AV → AV
  | .agg cs => match cs.all flat1 with | true => .agg (cs.map (scrub1 r)) | false => .pv .undef
  | .tup vs => match vs.all flat1 with | true => .tup (vs.map (scrub1 r)) | false => .pv .undef
  | .fn f a b => match a.all flat1 && b.all flat1 with | true => .fn f (a.map (scrub1 r)) (b.map (scrub1 r)) | false => .pv .undef
  | v => match flat1 v with | true => scrub1 r v | false => .pv .undef
def scrubOb (r : Nat → Option Nat) : Ob → Ob
  | .box cs => .box (cs.map (scrub r))
  | o => o
def scrubM (r : Nat → Option Nat) : List (Nat × Ob) → List (Nat × Ob)
  | [] => []
  | x :: m => match r x.1 with
    | some j => (j, scrubOb r x.2) :: scrubM r m
    | none => scrubM r m
/-- The places that a value names. -/
def refs1 : AV → List Nat
  | .ptr id _ => [id]
  | .own id => [id]
  | .rpt id _ _ => [id]
  | _ => []
def refs : AV → List Nat
  | .agg cs => cs.flatMap refs1
  | .tup vs => vs.flatMap refs1
  | .fn _ a b => a.flatMap refs1 ++ b.flatMap refs1
  | v => refs1 v
def refsOb : Ob → List Nat
  | .box cs => cs.flatMap refs
  | .row .. => []
def reach (m : List (Nat × Ob)) : Nat → List Nat → List Nat
  | 0, l => l
  | n + 1, l => reach m n (l ++ m.flatMap fun x => match l.contains x.1 with | true => refsOb x.2 | false => [])
def isRow (m : List (Nat × Ob)) (id : Nat) : Bool := match findOb id m with | some (.row ..) => true | _ => false
/-- Whose place it was. -/
def whose (r : Nat → Option Nat) (m : List (Nat × Ob)) (j : Nat) : Option Nat := (m.find? fun x => r x.1 == some j).map (·.1)
def oneEach (r : Nat → Option Nat) (m : List (Nat × Ob)) : Bool := m.all fun x => match r x.1 with
  | some j => whose r m j == some x.1
  | none => true
def maskT (live : List Nat) : Nat → List AV → List AV
  | _, [] => []
  | i, v :: l => (match live.contains i with | true => v | false => .pv .undef) :: maskT live (i + 1) l
/-- At a loop's head: what is not read behind it goes; slices of the frame's own lie apart from those to be made. -/
def placing (s : St) (tm : List AV) (c0 : Nat) : Nat → Option Nat :=
  let live := reach s.mem 3 (tm.flatMap refs ++ s.stack.flatMap fun x => x.2.2.flatMap refs)
  fun id => match live.contains id with
    | true => match decide (id < c0 * 1000) with
      | true => match isRow s.mem id && decide (id / 1000 = s.cur) && decide (id % 1000 < 500) with
        | true => some (id + 500)
        | false => some id
      | false => match isRow s.mem id with
        | true => some (s.cur * 1000 + 900 + id % 97)
        | false => none
    | false => none
def St.cut (s : St) (tm : List AV) (r : Nat → Option Nat) (c0 : Nat) : St :=
  { s with
    tmps := tm.map (scrub r)
    stack := s.stack.map fun x => (x.1, x.2.1, x.2.2.map (scrub r))
    mem := scrubM r s.mem
    ctr := c0 }
def St.mask (s : St) (lv : List Nat × List Nat) (c0 : Nat) : St :=
  match oneEach (placing s (maskT lv.1 0 s.tmps) c0) s.mem with
  | true => s.cut (maskT lv.1 0 s.tmps) (placing s (maskT lv.1 0 s.tmps) c0) c0
  | false => s
def iter (body : St → Tr (Ex × St)) (head fin : St → St) : Nat → St → Tr (Ex × St)
  | 0, _ => .fail
  | k + 1, s => (body (head s)).bind fun r => match r.1 with
    | .normal => iter body head fin k r.2
    | e => .ret (e, fin r.2)
abbrev Mask := List Nat × List Nat
/-- What is done at a loop's head, and behind it. -/
def headOf (E : Env) (f : Nat) (a : Code) (c0 : Nat) : St → St :=
  match (firstRegion a).bind (E.L f) with
  | some lv => fun t => t.mask lv.1 c0
  | none => id
def finOf (E : Env) (f : Nat) (a : Code) (c0 : Nat) : St → St :=
  match (firstRegion a).bind (E.L f) with
  | some lv => fun t => t.mask lv.2 c0
  | none => id
def loopAt (E : Env) (ec : Code → St → Tr (Ex × St)) (a : Code) (s : St) : Option (Ex × St) :=
  (iter (ec a) (headOf E s.fn a s.ctr) (finOf E s.fn a s.ctr) E.N s).run
def resultsA (E : Env) (fn : Func) (s : St) : Tr AV :=
  (((rdOs' fn.results.toList).run s.view []).bind fun r => match r.1 with
    | [v] => .ret v
    | vs => .ret (.tup vs))
where
  rdOs' : List ResultVar → Rd (List AV)
  | [] => .ret []
  | .tmp t :: l => .tmp t fun v => (rdOs' l).bind fun r => .ret (v :: r)
  | .cell a t :: l => .tmp a fun a => (loadA E.P t a).bind fun v => (rdOs' l).bind fun r => .ret (v.1 :: r)
/-- A run without loops, as an operation. -/
def Tr.rd {α : Type} : Tr α → Rd α
  | .ret a => .ret a
  | .test b x y => .test b x.rd y.rd
  | _ => .fail
/-- A function walked into from data alone, in a frame of its own: what it hands back, and what it made. -/
def isoRun (E : Env) (ec : Code → St → Tr (Ex × St)) (ctr f : Nat) (fn : Func) (c : Code) (ps : List PV) : Tr (AV × List (Nat × Ob)) :=
  (ec c { tmps := ps.map ofPV1 ++ List.replicate (fn.ntmps - ps.length) (.tup []), stack := [], mem := [], cur := ctr, ctr := ctr + 1, fn := f }).bind fun r =>
    match r.1 with
    | .normal | .ret => (resultsA E fn r.2).bind fun v => .ret (v, r.2.mem)
    | _ => .fail
def allFresh {α : Type} : List (Nat × Ob) → Rd α → Rd α
  | [], k => k
  | x :: m, k => .fresh x.1 fun b => guardB b (allFresh m k)
def newEff (x : Nat × Ob) : Eff := .new x.1 x.2
def isoCall (E : Env) (ec : Code → St → Tr (Ex × St)) (ctr f : Nat) (vs : List AV) : Re :=
  match E.P.funcs[f]? with
  | some fn => match fn.body with
    | some c => (purArgs E.P fn.params.toList vs).bind fun ps => (Tr.rd (isoRun E ec ctr f fn c ps.1)).bind fun q => allFresh q.2 (.ret (q.1, ps.2 ++ q.2.reverse.map newEff))
    | none => .fail
  | none => .fail
/-- A call of a function by its name that is walked into. -/
def isoOf (E : Env) (o : Oper) : Option (Call × Nat) :=
  match o.guard, o.op with
  | none, .call c => match c.callee with
    | .value (.func g) => match E.O g with
      | none => some (c, g)
      | some _ => none
    | _ => none
  | _, _ => none
def isoOp (E : Env) (ec : Code → St → Tr (Ex × St)) (fr ctr : Nat) (ops : Array Oper) (o : Oper) : Re :=
  match isoOf E o with
  | some (c, g) => (rdOs c.args.toList).bind (isoCall E ec ctr g)
  | none => evGuarded E fr ops o
def mayDraw (E : Env) (v : View) (o : Oper) : Bool :=
  match isoOf E o with
  | some _ => true
  | none => match walked E v o with
    | some _ => false
    | none => true
/-- A region that draws its order: the text's order, and what each operation looked at and wrote. -/
def evDrawn (E : Env) (ec : Code → St → Tr (Ex × St)) (ops : Array Oper) : List Nat → St → Al → List Done → Tr (St × List Done)
  | [], s, _, ds => .ret (s, ds)
  | i :: l, s, al, ds => match ops[i]? with
    | some o => asked ops o s al fun s => match mayDraw E s.view o with
      | false => .fail
      | true => ((isoOp E ec s.cur s.ctr ops o).run s.view []).bind fun r => match fitsAll s.mem r.1.2 with
        | true => evDrawn E ec ops l (s.app o.dst r.1) (al.put o r.1.1) (⟨i, r.2, keysOf o.dst r.1.2⟩ :: ds)
        | false => .fail
    | none => .fail
/-- Frames' numbers behind a region of which a call is walked into. -/
def bump (E : Env) (ops : Array Oper) (s : St) : St :=
  match ops.any fun o => (isoOf E o).isSome with
  | true => { s with ctr := s.ctr + 20 }
  | false => s
/-- The function's code, if it may be walked into. -/
def evCall (E : Env) (ec : Code → St → Tr (Ex × St)) (s : St) (f : Nat) (vs : List AV) : Tr (AV × St) :=
  match E.P.funcs[f]? with
  | some fn => match fn.body with
    | some c => (ec c { tmps := vs ++ List.replicate (fn.ntmps - vs.length) (.tup []), stack := (s.cur, s.fn, s.tmps) :: s.stack, mem := s.mem, cur := s.ctr, ctr := s.ctr + 1, fn := f }).bind fun r =>
      match r.1 with
      | .normal | .ret => (resultsA E fn r.2).bind fun v => match r.2.stack with
        | (cur, g, tmps) :: st => .ret (v, { r.2 with tmps, stack := st, cur, fn := g })
        | [] => .fail
      | _ => .fail
    | none => .fail
  | none => .fail
def evOps (E : Env) (ec : Code → St → Tr (Ex × St)) (ops : Array Oper) : List Nat → St → Al → Tr St
  | [], s, _ => .ret s
  | i :: l, s, al => match ops[i]? with
    | some o => asked ops o s al fun s => match o.guard, walked E s.view o with
      | none, some (f, args) => (args.run s.view []).bind fun vs => (evCall E ec s f vs.1).bind fun r => evOps E ec ops l (r.2.put o.dst r.1) []
      | _, _ => ((evGuarded E s.cur ops o).run s.view []).bind fun r => evOps E ec ops l (s.app o.dst r.1) (al.put o r.1.1)
    | none => .fail
def evCode (E : Env) : Nat → Code → St → Tr (Ex × St)
  | 0, _, _ => .fail
  | n + 1, c, s => match c with
    | .skip => .ret (.normal, s)
    | .region _ ops false => (evOps E (evCode E n) ops (List.range ops.size) s []).bind fun s => .ret (.normal, s)
    | .region _ ops true => (evDrawn E (evCode E n) ops (List.range ops.size) s [] []).bind fun r => match textual ops && apartAll ops r.2 with
      | true => .ret (.normal, bump E ops r.1)
      | false => .fail
    | .seq a b => (evCode E n a s).bind fun r => match r.1 with
      | .normal => evCode E n b r.2
      | e => .ret (e, r.2)
    | .cond x a b => match x with
      | .tmp d => settle s [] d fun s => match s.tmps.getD d (.pv .undef) with
        | .pv (.bool t) => .test t (evCode E n a s) (evCode E n b s)
        | _ => .fail
      | .const (.bool t) => .test t (evCode E n a s) (evCode E n b s)
      | _ => .fail
    | .block id a => (evCode E n a s).bind fun r => match r.1 with
      | .exit j => match j == id with
        | true => .ret (.normal, r.2)
        | false => .ret (.exit j, r.2)
      | e => .ret (e, r.2)
    | .loop a => .wait n a s (loopAt E (evCode E n) a s) .ret
    | .exit id => .ret (.exit id, s)
    | .scope a => (evCode E n a s).bind fun r => match r.1 with
      | .goto l => match findLabel a l with
        | some rest => (evCode E n rest r.2).bind fun q => match q.1 with
          | .goto _ => .fail
          | e => .ret (e, q.2)
        | none => .fail
      | e => .ret (e, r.2)
    | .label _ => .ret (.normal, s)
    | .goto l => .ret (.goto l, s)
    | .ret => .ret (.ret, s)
    | _ => .fail
/-- A function from data to data. -/
def evFn (E : Env) (n f : Nat) (args : List PV) : Tr AV :=
  match E.P.funcs[f]? with
  | some fn => match fn.body with
    | some c => (evCode E n c { tmps := args.map ofPV1 ++ List.replicate (fn.ntmps - args.length) (.tup []), stack := [], mem := [], cur := 0, ctr := 1, fn := f }).bind fun r =>
      match r.1 with
      | .normal | .ret => resultsA E fn r.2
      | _ => .fail
    | none => .fail
  | none => .fail
end Go.Proofs.YtkdbccloniaogaaS
