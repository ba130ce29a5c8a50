/- Part 0 of what the proof of TopBackends leans on. Conditions: none. -/
import Derived.Calls
import Derived.Orders
import Derived.Deep.AppendSrc
import Derived.Deep.MidRow
import Derived.Laws.MakeOwn
import Derived.Below
import Derived.Laws.Tables
import Derived.Laws.Small
import Derived.Laws.StructEq
import Derived.Laws.BytesString
import Derived.Laws.Cells
set_option linter.unusedSimpArgs false
set_option linter.unusedVariables false
namespace Go.Proofs.YtgfnpgnfklcicaaGreatS
open Go
inductive K where
 | int (k : IntKind) | bool | str | list (t : Nat) | fn | any
 deriving DecidableEq
inductive PV where
 | undef
 | int (k : IntKind) (n : Int)
 | bool (b : Bool)
 | str (s : ByteArray)
 | list (t : Nat) (xs : List (List PV))
 | fn (f : Nat)
 | nilfn | nilp | nili
 | agg (cs : List PV)
 | tup (vs : List PV)
inductive AV where
 | pv (p : PV)
 | lit (t : Nat) (xs : List (List PV))
 | ptr (id off : Nat)
 | own (id : Nat)
 | rpt (id i off : Nat)
 | ept (t : Nat) (xs : List (List PV)) (i off : Nat)
 | pts (id : Nat) (offs : List Nat)
 | pel (id : Nat) (offs : List Nat) (i : Nat)
 | psel (id : Nat) (offs : List Nat) (i : Nat)
 | chn (id : Nat)
 | fn (f : Fn) (first cap : List AV)
 | iface (t : Nat) (v : AV)
 | agg (cs : List AV)
 | tup (vs : List AV)
inductive Ob where
 | box (cs : List AV)
 | row (m t : Nat) (xs : List (List PV))
 | chan (q : Option AV)
abbrev Row := Nat × Nat × List (List PV)
structure St where
 tmps : List AV
 stack : List (Nat × Nat × List AV)
 mem : List (Nat × Ob)
 cur : Nat
 ctr : Nat
 fn : Nat
inductive Ex where
 | normal | exit (id : Nat) | goto (l : Nat) | ret
inductive Tr (α : Type) where
 | ret (a : α)
 | test (b : Bool) (x y : Tr α)
 | wait (n : Nat) (c : Code) (s : St) (x : Option (Ex × St)) (k : Ex × St → Tr α)
 | fail
def Tr.bind {α β : Type} : Tr α → (α → Tr β) → Tr β
 | .ret a, f => f a
 | .test b x y, f => .test b (x.bind f) (y.bind f)
 | .wait n c s x k, f => .wait n c s x fun r => (k r).bind f
 | .fail, _ => .fail
def Tr.run {α : Type} : Tr α → Option α
 | .ret a => some a
 | .test b x y => bif b then x.run else y.run
 | .wait _ _ _ x k => x.bind fun r => (k r).run
 | .fail => none
inductive Key where
 | t (n : Nat) | c (id off n : Nat) | r (id : Nat) | n (id : Nat) | h (id : Nat)
inductive Rd (α : Type) where
 | ret (a : α)
 | tmp (t : Nat) (k : AV → Rd α)
 | rng (id off n : Nat) (k : Option (List AV) → Rd α)
 | row (id : Nat) (k : Option Row → Rd α)
 | fresh (id : Nat) (k : Bool → Rd α)
 | chn (id : Nat) (k : Option (Option AV) → Rd α)
 | test (b : Bool) (x y : Rd α)
 | fail
def Rd.bind {α β : Type} : Rd α → (α → Rd β) → Rd β
 | .ret a, f => f a
 | .tmp t k, f => .tmp t fun v => (k v).bind f
 | .rng id off n k, f => .rng id off n fun v => (k v).bind f
 | .row id k, f => .row id fun v => (k v).bind f
 | .fresh id k, f => .fresh id fun v => (k v).bind f
 | .chn id k, f => .chn id fun v => (k v).bind f
 | .test b x y, f => .test b (x.bind f) (y.bind f)
 | .fail, _ => .fail
structure View where
 tmp : Nat → AV
 find : Nat → Option Ob
def View.rng (v : View) (id off n : Nat) : Option (List AV) :=
 match v.find id with
 | some (.box cs) => if off + n ≤ cs.length then some ((cs.drop off).take n) else none
 | _ => none
def View.row (v : View) (id : Nat) : Option Row :=
 match v.find id with
 | some (.row m t xs) => some (m, t, xs)
 | _ => none
def View.fresh (v : View) (id : Nat) : Bool :=
 match v.find id with
 | some _ => false
 | none => true
def View.chn (v : View) (id : Nat) : Option (Option AV) :=
 match v.find id with
 | some (.chan q) => some q
 | _ => none
def Rd.run {α : Type} (v : View) : Rd α → List Key → Tr (α × List Key)
 | .ret a, ks => .ret (a, ks)
 | .tmp t k, ks => (k (v.tmp t)).run v (.t t :: ks)
 | .rng id off n k, ks => (k (v.rng id off n)).run v (.c id off n :: ks)
 | .row id k, ks => (k (v.row id)).run v (.r id :: ks)
 | .fresh id k, ks => (k (v.fresh id)).run v (.n id :: ks)
 | .chn id k, ks => (k (v.chn id)).run v (.h id :: ks)
 | .test b x y, ks => .test b (x.run v ks) (y.run v ks)
 | .fail, _ => .fail
inductive Eff where
 | new (id : Nat) (o : Ob)
 | put (id off : Nat) (vs : List AV)
 | rset (id m t : Nat) (xs : List (List PV))
 | cset (id : Nat) (q : Option AV)
def Eff.key : Eff → Key
 | .new id _ => .n id
 | .put id off vs => .c id off vs.length
 | .rset id .. => .r id
 | .cset id _ => .h id
def Zz (id : Nat) : List (Nat × Ob) → Option Ob
 | [] => none
 | (j, o) :: l => if j = id then some o else Zz id l
def Yt (id : Nat) (o : Ob) : List (Nat × Ob) → List (Nat × Ob)
 | [] => []
 | (j, p) :: l => if j = id then (j, o) :: l else (j, p) :: Yt id o l
def St.view (s : St) : View := ⟨fun t => s.tmps.getD t (.pv .undef), fun id => Zz id s.mem⟩
def jx {α : Type} (l : List α) (off : Nat) (vs : List α) : List α := l.take off ++ vs ++ l.drop (off + vs.length)
def Eff.on (m : List (Nat × Ob)) : Eff → List (Nat × Ob)
 | .new id o => (id, o) :: m
 | .put id off vs => match Zz id m with
   | some (.box cs) => Yt id (.box (jx cs off vs)) m
   | _ => m
 | .rset id md t xs => Yt id (.row md t xs) m
 | .cset id q => match Zz id m with
   | some (.chan _) => Yt id (.chan q) m
   | _ => m
def St.put (s : St) (dst : Option Nat) (v : AV) : St :=
 match dst with
 | some d => { s with tmps := s.tmps.set d v }
 | none => s
def St.app (s : St) (dst : Option Nat) (p : AV × List Eff) : St := { s.put dst p.1 with mem := p.2.foldl Eff.on s.mem }
section types
variable (P : Program)
def Qx (t : Nat) : Nat := match P.info? t with | some i => i.size | none => 0
def jq (t : Nat) : Bool := match P.underlying t with | some (.struct _) => true | some (.array _ _) => true | _ => false
def ZM (s f : Nat) : Option (Nat × Nat) :=
 match P.underlying s with
 | some (.struct fs) => match fs[f]? with
   | some fd => some (fd.offset, fd.type)
   | none => none
 | _ => none
def zD (t : Nat) : Option Nat := match P.underlying t with | some (.slice e) => some e | _ => none
def jj : Nat → Nat → List K
 | 0, _ => [.any]
 | n + 1, t => match P.underlying t with
   | some (.int k) => [.int k]
   | some .bool => [.bool]
   | some .string => [.str]
   | some (.slice e) => [.list e]
   | some (.func ..) => [.fn]
   | some (.struct fs) => fs.toList.flatMap fun f => jj n f.type
   | some (.array m e) => (List.replicate m (jj n e)).flatten
   | _ => [.any]
def jy (t : Nat) : List K := jj P 20 t
end types
def pInt : PV → Int | .int _ n => n | _ => 0
def jb : PV → Bool | .bool b => b | _ => false
def pStr : PV → ByteArray | .str s => s | _ => ByteArray.empty
def Zy : PV → List (List PV) | .list _ xs => xs | _ => []
def eta : K → PV → PV
 | .int k, p => .int k (pInt p)
 | .bool, p => .bool (jb p)
 | .str, p => .str (pStr p)
 | .list t, p => .list t (Zy p)
 | _, p => p
def etas : List K → List PV → List PV
 | [], _ => []
 | k :: ks, l => eta k (l.headD .undef) :: etas ks l.tail
def jT : K → PV
 | .int k => .int k 0
 | .bool => .bool false
 | .str => .str ByteArray.empty
 | .list t => .list t []
 | .fn => .nilfn
 | .any => .undef
def Yyz (P : Program) (t : Nat) : List PV := (jy P t).map jT
def QW : K → AV
 | .list t => .lit t []
 | k => .pv (jT k)
def Qyz : K → Value → Bool
 | .int k, .int j n => decide (j = k) && n == 0
 | .bool, .bool b => !b
 | .str, .string s => s.size == 0
 | .list _, .slice none 0 0 => true
 | .fn, .nilFunc => true
 | .any, _ => true
 | _, _ => false
def zc : List K → List Value → Bool
 | [], [] => true
 | k :: ks, v :: vs => Qyz k v && zc ks vs
 | _, _ => false
def YM (P : Program) (t : Nat) : Bool :=
 match P.info? t with
 | some i => match i.zero with
   | some z => zc (jy P t) z.cells.toList && (jy P t).length == i.size
   | none => false
 | none => false
def okE (P : Program) (t : Nat) : Bool := (jy P t).length == Qx P t && Qx P t != 0
def jo : Value → AV
 | .bool b => .pv (.bool b)
 | .int k n => .pv (.int k n)
 | .string s => .pv (.str s)
 | .slice none 0 0 => .lit 0 []
 | .nilFunc => .pv .nilfn
 | .pointer none => .pv .nilp
 | .nilIface => .pv .nili
 | _ => .pv .undef
def Zzo : Value → AV
 | .agg cs => .agg (cs.toList.map jo)
 | .tuple vs => match vs.toList with
   | [] => .tup []
   | _ :: _ => .pv .undef
 | v => jo v
def Qg : PV → AV
 | .agg cs => .agg (cs.map .pv)
 | p => .pv p
def ofPV : PV → AV
 | .tup vs => .tup (vs.map Qg)
 | p => Qg p
def AV.cells : AV → List AV
 | .agg cs => cs
 | v => [v]
def PV.cells : PV → List PV
 | .agg cs => cs
 | v => [v]
def AV.one : AV → Bool
 | .pv .undef => false
 | .pv (.agg _) => false
 | .pv (.tup _) => false
 | .agg _ => false
 | .tup _ => false
 | _ => true
abbrev Re := Rd (AV × List Eff)
def okV (v : AV) : Re := .ret (v, [])
def chk {α : Type} (b : Bool) (k : Rd α) : Rd α := .test b k .fail
def rdO : Operand → Rd AV
 | .tmp t => .tmp t .ret
 | .const v => .ret (Zzo v)
 | .func f => .ret (.fn (.func f) [] [])
 | .global _ => .fail
def Yv {α : Type} (b : Bool) (k : Rd α) : Rd α := match b with | true => k | false => .fail
def pur1 (k : K) (v : AV) : Rd (PV × List Eff) :=
 match k, v with
 | .int k, .pv (.int j n) => Yv (decide (j = k)) (.ret (.int k n, []))
 | .bool, .pv (.bool b) => .ret (.bool b, [])
 | .str, .pv (.str s) => .ret (.str s, [])
 | .list t, .pv (.list u xs) => Yv (u == t) (.ret (.list t xs, []))
 | .list t, .lit u xs => match u == t with
   | true => .ret (.list t xs, [])
   | false => match xs with
     | [] => .ret (.list t [], [])
     | _ :: _ => .fail
 | .list t, .own id => .row id fun r => match r with
   | some (m, u, xs) => Yv (u == t) (match m with
     | 0 => .ret (.list t xs, [])
     | 1 => .ret (.list t xs, [])
     | 2 => .ret (.list t xs, [.rset id 1 t xs])
     | _ => .fail)
   | none => .fail
 | .fn, .pv (.fn f) => .ret (.fn f, [])
 | .fn, .pv .nilfn => .ret (.nilfn, [])
 | .fn, .fn (.func f) [] [] => .ret (.fn f, [])
 | _, _ => .fail
def purs : List K → List AV → Rd (List PV × List Eff)
 | [], [] => .ret ([], [])
 | k :: ks, v :: vs => (pur1 k v).bind fun p => (purs ks vs).bind fun q => .ret (p.1 :: q.1, p.2 ++ q.2)
 | _, _ => .fail
def purV (P : Program) (t : Nat) (v : AV) : Rd (PV × List Eff) :=
 match jq P t, v with
 | true, .agg cs => (purs (jy P t) cs).bind fun q => .ret (.agg q.1, q.2)
 | false, v => match jy P t with
   | [k] => pur1 k v
   | _ => .fail
 | _, _ => .fail
def Ze (P : Program) : List Nat → List AV → Rd (List PV × List Eff)
 | [], [] => .ret ([], [])
 | t :: ts, v :: vs => (purV P t v).bind fun p => (Ze P ts vs).bind fun q => .ret (p.1 :: q.1, p.2 ++ q.2)
 | _, _ => .fail
def jzX (v : AV) : Rd (Nat × List (List PV)) :=
 match v with
 | .pv (.list t xs) => .ret (t, xs)
 | .lit t xs => .ret (t, xs)
 | .own id => .row id fun r => match r with
   | some (_, t, xs) => .ret (t, xs)
   | none => .fail
 | _ => .fail
def Yzo (op : BinOp) (k : IntKind) (x y : Int) : Rd PV :=
 match op with
 | .add => .ret (.int k (k.wrap (x + y)))
 | .sub => .ret (.int k (k.wrap (x - y)))
 | .mul => .ret (.int k (k.wrap (x * y)))
 | .quo => chk (decide (y ≠ 0)) (.ret (.int k (k.wrap (x.tdiv y))))
 | .rem => chk (decide (y ≠ 0)) (.ret (.int k (x.tmod y)))
 | .and => .ret (.int k (k.wrap (BitVec.ofInt k.bits x &&& BitVec.ofInt k.bits y).toNat))
 | .or => .ret (.int k (k.wrap (BitVec.ofInt k.bits x ||| BitVec.ofInt k.bits y).toNat))
 | .xor => .ret (.int k (k.wrap (BitVec.ofInt k.bits x ^^^ BitVec.ofInt k.bits y).toNat))
 | .shl => chk (decide (0 ≤ y)) (.ret (.int k (k.wrap (x * 2 ^ (min y.toNat k.bits)))))
 | .shr => chk (decide (0 ≤ y)) (.ret (.int k (x.fdiv (2 ^ (min y.toNat k.bits)))))
 | .eql => .ret (.bool (x == y))
 | .neq => .ret (.bool (x != y))
 | .lss => .ret (.bool (decide (x < y)))
 | .leq => .ret (.bool (decide (x ≤ y)))
 | .gtr => .ret (.bool (decide (x > y)))
 | .geq => .ret (.bool (decide (x ≥ y)))
 | _ => .fail
def Yyc (op : BinOp) (x y : ByteArray) : Rd PV :=
 match op with
 | .add => chk (decide (x.size + y.size ≤ 4611686018427387904)) (.ret (.str (x ++ y)))
 | .eql => .ret (.bool (x.toList == y.toList))
 | .neq => .ret (.bool !(x.toList == y.toList))
 | _ => .fail
def jzh : TypeDesc → List AV → List AV → Option Bool
 | .int _, [.pv (.int i x)], [.pv (.int j y)] => match decide (i = j) with | true => some (x == y) | false => none
 | .bool, [.pv (.bool x)], [.pv (.bool y)] => some (x == y)
 | .string, [.pv (.str x)], [.pv (.str y)] => some (x.toList == y.toList)
 | _, _, _ => none
def eqFs (P : Program) (eq : Nat → List AV → List AV → Option Bool) : List Field → List AV → List AV → Option Bool
 | [], _, _ => some true
 | f :: fs, xs, ys => match f.name != "_", eq f.type ((xs.drop f.offset).take (Qx P f.type)) ((ys.drop f.offset).take (Qx P f.type)), eqFs P eq fs xs ys with
   | true, some a, some b => some (a && b)
   | _, _, _ => none
def eqT (P : Program) : Nat → Nat → List AV → List AV → Option Bool
 | 0 => fun _ _ _ => none
 | d + 1 => fun t xs ys => match P.underlying t with
   | some (.struct fs) => match P.stoodInHeld t with
     | true => none
     | false => eqFs P (eqT P d) fs.toList xs ys
   | some td => jzh td xs ys
   | none => none
def Qzo (P : Program) (op : BinOp) (t : Nat) (b : Bool) : Rd PV :=
 match P.underlying t, op with
 | some (.func ..), .eql => .ret (.bool b)
 | some (.func ..), .neq => .ret (.bool !b)
 | _, _ => .fail
def binA (P : Program) (op : BinOp) (t : Nat) (x y : AV) : Rd PV :=
 match x, y with
 | .pv (.int k a), .pv (.int j b) => match op with
   | .shl => Yzo .shl k a b
   | .shr => Yzo .shr k a b
   | _ => Yv (decide (k = j)) (Yzo op k a b)
 | .pv (.str a), .pv (.str b) => Yyc op a b
 | .pv (.bool a), .pv (.bool b) => match op with
   | .eql => match P.underlying t with | some .bool => .ret (.bool (a == b)) | _ => .fail
   | .neq => match P.underlying t with | some .bool => .ret (.bool !(a == b)) | _ => .fail
   | _ => .fail
 | .agg xs, .agg ys => Yv (jq P t && !P.eqGuardType P.depth t) (match eqT P 20 t xs ys, op with
   | some b, .eql => .ret (.bool b)
   | some b, .neq => .ret (.bool !b)
   | _, _ => .fail)
 | .iface _ _, .pv .nili => match P.underlying t, op with
   | some (.interface _), .eql => .ret (.bool false)
   | some (.interface _), .neq => .ret (.bool true)
   | _, _ => .fail
 | .pv .nili, .pv .nili => match P.underlying t, op with
   | some (.interface ms), .eql => Yv ms.isEmpty (.ret (.bool true))
   | some (.interface ms), .neq => Yv ms.isEmpty (.ret (.bool false))
   | _, _ => .fail
 | .fn _ _ _, .pv .nilfn => Qzo P op t false
 | .pv (.fn _), .pv .nilfn => Qzo P op t false
 | .pv .nilfn, .pv .nilfn => Qzo P op t true
 | _, _ => .fail
def unA (op : UnOp) (x : AV) : Rd PV :=
 match op, x with
 | .neg, .pv (.int k n) => .ret (.int k (k.wrap (0 - n)))
 | .not, .pv (.bool b) => .ret (.bool !b)
 | _, _ => .fail
def most : Nat := 1000000
def idOf (fr : Nat) (dst : Option Nat) : Nat := fr * 1000 + dst.getD 999
def Jzo (_ : List (List PV)) : Nat := 1
def Q4 (P : Program) (e fr : Nat) (dst : Option Nat) (s x : AV) : Re :=
 (jzX x).bind fun y =>
 let id := idOf fr dst
 .fresh id fun fr => Yv (fr && YM P e && okE P e && decide ((match P.info? e with | some i => i.bytes | none => 0) ≤ 100000)) (match s with
  | .lit t xs => match xs with
    | [] => Yv (y.1 == e) (chk (decide (y.2.length ≤ most)) (.ret (.own id, [.new id (.row 2 y.1 y.2)])))
    | _ :: _ => Yv (t == y.1 && y.1 == e) (chk (decide (0 < y.2.length) && decide (xs.length + y.2.length ≤ most)) (.ret (.own id, [.new id (.row 2 t (xs ++ y.2))])))
  | .own j => .row j fun r => match r with
    | some (m, t, xs) => Yv (t == y.1 && y.1 == e && decide (m ≠ 0)) (chk (decide (xs.length + y.2.length ≤ most)) (.ret (.own id, [.rset j 0 t xs, .new id (.row (Jzo xs) t (xs ++ y.2))])))
    | none => .fail
  | _ => .fail)
def ZC (v : Option AV) (d : Nat) : Rd Int :=
 match v with
 | none => .ret d
 | some (.pv (.int _ n)) => .ret n
 | _ => .fail
def optO : Option Operand → Rd (Option AV)
 | none => .ret none
 | some x => (rdO x).bind fun v => .ret (some v)
def Zzh : Option Operand → Bool
 | some (.const (.int _ n)) => n == 0
 | _ => false
def Yzh (P : Program) (t : Nat) (x : AV) (lo hi : Option AV) : Re :=
 match P.underlying t, x with
 | some .string, .pv (.str s) => (ZC lo 0).bind fun l => (ZC hi s.size).bind fun h =>
   chk (decide (0 ≤ l) && decide (l ≤ h) && decide (h ≤ s.size)) (okV (.pv (.str (s.extract l.toNat h.toNat))))
 | some (.slice e), .pv (.list u xs) => cut e u xs []
 | some (.slice e), .lit u xs => cut e u xs []
 | some (.slice e), .own id => .row id fun r => match r with
   | some (m, u, xs) => match m with
     | 0 => cut e u xs []
     | 1 => cut e u xs []
     | 2 => cut e u xs [.rset id 1 u xs]
     | _ => .fail
   | none => .fail
 | _, _ => .fail
where
 cut (e u : Nat) (xs : List (List PV)) (es : List Eff) : Re := Yv (u == e && okE P e) ((ZC lo 0).bind fun l => (ZC hi xs.length).bind fun h =>
  chk (decide (0 ≤ l) && decide (l ≤ h) && decide (h ≤ xs.length)) (.ret (.pv (.list u ((xs.take h.toNat).drop l.toNat)), es)))
def Qyc {α : Type} : List (Nat × List α) → List α → List α
 | [], cs => cs
 | (off, vs) :: l, cs => Qyc l (jx cs off vs)
def yzx (P : Program) (e : Nat) : Nat → List (Nat × AV) → Rd (List (List PV) × List Eff)
 | _, [] => .ret ([], [])
 | i, (j, v) :: l => Yv (i == j) ((purV P e v).bind fun p => (yzx P e (i + 1) l).bind fun q => .ret (p.1.cells :: q.1, p.2 ++ q.2))
def ZT : List (Nat × Operand) → Rd (List (Nat × AV))
 | [] => .ret []
 | (i, x) :: l => (rdO x).bind fun v => (ZT l).bind fun r => .ret ((i, v) :: r)
def rdOs : List Operand → Rd (List AV)
 | [] => .ret []
 | x :: l => (rdO x).bind fun v => (rdOs l).bind fun r => .ret (v :: r)
def QzO (P : Program) (t : Nat) : Bool :=
 match P.underlying t with
 | some (.struct fs) => fs.toList.all fun f => (P.info? f.type).isSome
 | _ => false
def JzO (P : Program) (t : Nat) : Bool := (jy P t).all fun k => match k with | .any => false | _ => true
def QM (P : Program) (t : Nat) : List (Nat × AV) → Option (List (Nat × List AV))
 | [] => some []
 | (i, v) :: l => match ZM P t i, QM P t l with
   | some (off, ft), some r => match v.cells.length == Qx P ft && v.cells.all AV.one && decide (off + Qx P ft ≤ (jy P t).length) with
     | true => some ((off, v.cells) :: r)
     | false => none
   | _, _ => none
inductive Res where
 | pv (p : PV)
 | fresh (t : Nat) (xs : List (List PV))
structure Ora where
 pre : List PV → Bool
 res : List PV → Res
structure Env where
 P : Program
 O : Nat → Option Ora
 L : Nat → Nat → Option ((List Nat × List Nat) × (List Nat × List Nat))
 N : Nat
def Qzh (E : Env) (fr : Nat) (dst : Option Nat) (f : Nat) (vs : List AV) : Re :=
 match E.O f, E.P.funcs[f]? with
 | some o, some fn => Yv fn.body.isSome ((Ze E.P fn.params.toList vs).bind fun ps =>
   chk (o.pre ps.1) (match o.res ps.1 with
    | .pv p => .ret (ofPV p, ps.2)
    | .fresh t xs => let id := idOf fr dst; .fresh id fun b => Yv b (.ret (.own id, ps.2 ++ [.new id (.row 2 t xs)]))))
 | _, _ => .fail
def J4 (E : Env) (fr : Nat) (dst : Option Nat) (b : Builtin) (ts : List Nat) (vs : List AV) : Re :=
 match b, vs with
 | .len, [v] => match ts with
   | [t] => match E.P.underlying t, v with
     | some .string, .pv (.str s) => okV (.pv (.int .i64 s.size))
     | some (.slice _), .pts _ offs => okV (.pv (.int .i64 offs.length))
     | some (.slice _), v => (jzX v).bind fun y => okV (.pv (.int .i64 y.2.length))
     | _, _ => .fail
   | _ => .fail
 | .append, [s, x] => match ts with
   | [t, u] => match zD E.P t, zD E.P u with
     | some e, some _ => Q4 E.P e fr dst s x
     | _, _ => .fail
   | _ => .fail
 | .max, [.pv (.int k x), .pv (.int j y)] => Yv (decide (k = j)) (okV (.pv (.int k (if x < y then y else x))))
 | .min, [.pv (.int k x), .pv (.int j y)] => Yv (decide (k = j)) (okV (.pv (.int k (if y < x then y else x))))
 | _, _ => .fail
def j5 (id : Nat) : Nat → List (Nat × AV) → Option (List Nat)
 | _, [] => some []
 | i, (j, v) :: l => match v, j5 id (i + 1) l with
   | .ptr id' off, some r => match i == j && id' == id with
     | true => some (off :: r)
     | false => none
   | _, _ => none
def zzN (l : List (Nat × AV)) : Option (Nat × List Nat) :=
 match l with
 | [] => none
 | (_, v) :: _ => match v with
   | .ptr id _ => match j5 id 0 l with
     | some r => some (id, r)
     | none => none
   | _ => none
def qX (k : IntKind) (cs : List AV) : List Nat → Option (List Int)
 | [] => some []
 | o :: os => match cs[o]?, qX k cs os with
   | some (.pv (.int j n)), some r => match decide (j = k) with
     | true => some (n :: r)
     | false => none
   | _, _ => none
def yzN (i : Nat) : Nat → List Int → Int
 | _, [] => 0
 | j, n :: ns => bif decide (i = j) then n else yzN i (j + 1) ns
def Jh : List Nat → Nat
 | [] => 0
 | o :: os => max (o + 1) (Jh os)
def Jzh : List Nat → Bool
 | [] => true
 | o :: os => !os.contains o && Jzh os
def Zi (i : Nat) (k : IntKind) (m : Int) (cs : List AV) : Nat → List Nat → List Int → List AV
 | j, o :: os, n :: ns => (Zi i k m cs (j + 1) os ns).set o (.pv (.int k (bif decide (i = j) then m else n)))
 | _, _, _ => cs
def ZzX (P : Program) (t : Nat) (a : AV) : Re :=
 Yv (P.underlying t).isSome (match a with
 | .ptr id off => .rng id off (Qx P t) fun r => match r with
   | some cs => match jq P t, cs with
     | true, cs => okV (.agg cs)
     | false, [c] => okV c
     | _, _ => .fail
   | none => .fail
 | .ept u xs i off => fromEl (etas (jy P u) (xs.getD i [])) off
 | .rpt id i off => .row id fun r => match r with
   | some (_, u, xs) => fromEl (etas (jy P u) (xs.getD i [])) off
   | none => .fail
 | .pel id offs i => Yv (!jq P t) (okV (.psel id offs i))
 | .psel id offs i => Yv (!jq P t) (.rng id 0 (Jh offs) fun r => match r with
   | some cs => match P.underlying t with
     | some (.int k) => match qX k cs offs with
       | some ns => okV (.pv (.int k (yzN i 0 ns)))
       | none => .fail
     | _ => .fail
   | none => .fail)
 | _ => .fail)
where
 fromEl (e : List PV) (off : Nat) : Re := match jq P t, (e.drop off).take (Qx P t) with
  | true, cs => Yv (cs.length == Qx P t) (okV (.agg (cs.map .pv)))
  | false, [c] => okV (.pv c)
  | _, _ => .fail
def YC (id : Nat) : Eff → Bool
 | .rset j .. => !(j == id)
 | _ => false
def qyk (P : Program) (t : Nat) (a v : AV) : Re :=
 let cs := v.cells
 Yv (cs.length == Qx P t && cs.all AV.one && (P.info? t).isSome) (match a with
  | .ptr id off => .rng id off cs.length fun r => match r with
    | some _ => .ret (.tup [], [.put id off cs])
    | none => .fail
  | .rpt id i off => .row id fun r => match r with
    | some (m, u, xs) => match m with
      | 2 => let ks := jy P u
        (purs ((ks.drop off).take cs.length) cs).bind fun q => Yv (q.2.all (YC id) && decide (off + cs.length ≤ ks.length)) (.ret (.tup [], q.2 ++ [.rset id 2 u (xs.set i (match q.1.length == ks.length with
          | true => q.1
          | false => jx (etas ks (xs.getD i [])) off q.1))]))
      | _ => .fail
    | none => .fail
  | .psel id offs i => match cs with
    | [.pv (.int k m)] => Yv (Jzh offs) (.rng id 0 (Jh offs) fun r => match r with
      | some ds => match qX k ds offs with
        | some ns => .ret (.tup [], [.put id 0 (Zi i k m ds 0 offs ns)])
        | none => .fail
      | none => .fail)
    | _ => .fail
  | _ => .fail)
def qzN (off : Nat) : AV → Option AV
 | .ptr id o => some (.ptr id (o + off))
 | .rpt id i o => some (.rpt id i (o + off))
 | .ept t xs i o => some (.ept t xs i (o + off))
 | _ => none
def jyk (P : Program) (t : Nat) (x : AV) (i : Int) : Re :=
 match zD P t, x with
 | some e, .pv (.list u xs) => Yv (u == e && okE P u) (chk (decide (0 ≤ i) && decide (i < xs.length)) (okV (.ept u xs i.toNat 0)))
 | some e, .lit u xs => Yv (u == e && okE P u) (chk (decide (0 ≤ i) && decide (i < xs.length)) (okV (.ept u xs i.toNat 0)))
 | some e, .own id => .row id fun r => match r with
   | some (_, u, xs) => Yv (u == e && okE P u) (chk (decide (0 ≤ i) && decide (i < xs.length)) (okV (.rpt id i.toNat 0)))
   | none => .fail
 | some e, .pts id offs => Yv (Qx P e == 1) (chk (decide (0 ≤ i) && decide (i < offs.length)) (okV (.pel id offs i.toNat)))
 | _, _ => .fail
def isU8 (P : Program) (e : Nat) : Bool := match P.underlying e with | some (.int .u8) => true | _ => false
def YyQ (xs : List (List PV)) : ByteArray := (xs.map fun e => pInt (e.headD .undef)).foldl (fun r n => r.push (UInt8.ofNat n.toNat)) ByteArray.empty
def Jyz : AV → Bool
 | .ptr .. | .rpt .. | .ept .. | .psel .. => true
 | .fn (.func _) _ _ => true
 | _ => false
def jzN (E : Env) (g : Nat) : Bool := (E.L g 1000000).isSome
def Jyc (id : Nat) : Re := .rng id 0 1 fun r => match r with
 | some [.pv (.str s)] => chk (decide (0 < s.size)) (.ret (.pv (.int .i64 ((s.get! 0).toNat : Int)), [.put id 0 [.pv (.str (s.extract 1 s.size))]]))
 | _ => .fail
def QyQ (P : Program) (t : Nat) : Bool :=
 match P.underlying t with
 | some (.chan _ e) => match P.info? e with
   | some i => decide (i.bytes ≤ 100000)
   | none => false
 | _ => false
def zzg (P : Program) (t : Nat) (ok : Bool) : Re :=
 match ok, P.info? t with
 | true, some i => match i.zero with
   | some z => okV (.tup [Zzo z, .pv (.bool false)])
   | none => .fail
 | _, _ => .fail
def evOp (E : Env) (fr : Nat) (o : Oper) : Re :=
 let P := E.P
 match o.op with
 | .move x | .assign x => (rdO x).bind okV
 | .pick c a b => (rdO c).bind fun c => match c with
   | .pv (.bool c) => (rdO a).bind fun a => (rdO b).bind fun b => .test c (okV a) (okV b)
   | _ => .fail
 | .alloc t => let id := idOf fr o.dst; .fresh id fun b => Yv (b && YM P t) (.ret (.ptr id 0, [.new id (.box ((jy P t).map QW))]))
 | .box t x => (rdO x).bind fun v => let id := idOf fr o.dst; .fresh id fun b => Yv (b && v.cells.all AV.one) (.ret (.ptr id 0, [.new id (.box v.cells)]))
 | .build t parts => (ZT parts.toList).bind fun vs => match QM P t vs with
   | some ps => Yv (YM P t && QzO P t) (okV (.agg (Qyc ps ((jy P t).map QW))))
   | none => .fail
 | .buildSlice t n parts => (ZT parts.toList).bind fun vs => match zD P t with
   | some e => Yv (vs.length == n && YM P e && okE P e && decide (n * Qx P e ≤ 16777216)) (match zzN vs with
     | some q => Yv (Qx P e == 1) (okV (.pts q.1 q.2))
     | none => (yzx P e 0 vs).bind fun q => .ret (.lit e q.1, q.2))
   | none => .fail
 | .load t a => (rdO a).bind fun a => ZzX P t a
 | .store t a x => (rdO a).bind fun a => (rdO x).bind fun v => qyk P t a v
 | .nilCheck x => (rdO x).bind fun v => Yv (Jyz v) (okV v)
 | .makeChan t n => (rdO n).bind fun n => match n with
   | .pv (.int _ n) => let id := idOf fr o.dst
     .fresh id fun b => Yv (b && n == 1 && QyQ P t) (.ret (.chn id, [.new id (.chan none)]))
   | _ => .fail
 | .binOp op t x y _ => (rdO x).bind fun x => (rdO y).bind fun y => (binA P op t x y).bind fun p => okV (.pv p)
 | .unOp op _ x => (rdO x).bind fun x => (unA op x).bind fun p => okV (.pv p)
 | .convert s d x => (rdO x).bind fun v => match P.underlying s, P.underlying d, v with
   | some (.int _), some (.int k), .pv (.int _ n) => okV (.pv (.int k (k.wrap n)))
   | some .string, some .string, .pv (.str s) => okV (.pv (.str s))
   | some (.slice e), some .string, v => Yv (isU8 P e) ((jzX v).bind fun y => Yv (y.1 == e) (okV (.pv (.str (YyQ y.2)))))
   | _, _, _ => .fail
 | .makeFunc f first cap => (rdOs first.toList).bind fun a => (rdOs cap.toList).bind fun b => okV (.fn f a b)
 | .makeSlice t l c => (rdO l).bind fun l => (rdO c).bind fun c => match zD P t, l, c with
   | some e, .pv (.int _ n), .pv (.int _ m) => let id := idOf fr o.dst
     .fresh id fun b => Yv (b && YM P e && okE P e && JzO P e && decide ((match P.info? e with | some i => i.bytes | none => 0) ≤ 100000)) (chk (decide (0 ≤ n) && decide (n ≤ m) && decide (m ≤ most)) (.ret (.own id, [.new id (.row 2 e (List.replicate n.toNat (Yyz P e)))])))
   | _, _, _ => .fail
 | .slice t x lo hi mx => (rdO x).bind fun x => match mx with
   | none => (optO lo).bind fun lo => (optO hi).bind fun hi => Yzh P t x lo hi
   | some _ => Yv (Zzh mx && Zzh hi && lo.isNone && (match zD P t with | some e => okE P e | none => false)) ((jzX x).bind fun y => okV (.lit y.1 []))
 | .fieldAddr s x f => (rdO x).bind fun v => match ZM P s f with
   | some (off, ft) => Yv (Qx P ft != 0) (match qzN off v with
     | some w => okV w
     | none => .fail)
   | none => .fail
 | .field s x f => (rdO x).bind fun v => match ZM P s f, v with
   | some (off, ft), .agg cs => Yv (P.underlying ft).isSome (match jq P ft, (cs.drop off).take (Qx P ft) with
     | true, ds => Yv (ds.length == Qx P ft) (okV (.agg ds))
     | false, [c] => okV c
     | _, _ => .fail)
   | _, _ => .fail
 | .indexAddr t x i => (rdO x).bind fun x => (rdO i).bind fun i => match i with
   | .pv (.int _ i) => jyk P t x i
   | _ => .fail
 | .index t x i => (rdO x).bind fun x => (rdO i).bind fun i => match P.underlying t, x, i with
   | some .string, .pv (.str s), .pv (.int _ i) => chk (decide (0 ≤ i) && decide (i < s.size)) (okV (.pv (.int .u8 (s.get! i.toNat).toNat)))
   | _, _, _ => .fail
 | .extract x k => (rdO x).bind fun v => match v with
   | .tup vs => match vs[k]? with
     | some v => okV v
     | none => .fail
   | _ => .fail
 | .typeAssert x _ t ok => (rdO x).bind fun v => match P.underlying t with
   | some (.interface _) => .fail
   | some _ => match v with
     | .iface u a => match u == t with
       | true => match ok with
         | true => okV (.tup [a, .pv (.bool true)])
         | false => okV a
       | false => zzg P t ok
     | .pv .nili => zzg P t ok
     | _ => .fail
   | none => .fail
 | .makeInterface t x => (rdO x).bind fun v => match P.underlying t with
   | some (.interface _) => .fail
   | some _ => okV (.iface t v)
   | none => .fail
 | .call c => (rdOs c.args.toList).bind fun vs => match c.callee with
   | .builtin b => J4 E fr o.dst b c.argTypes.toList vs
   | .value f => (rdO f).bind fun f => match f with
     | .fn (.func g) first [] => match jzN E g, first, vs with
       | true, [.ptr id 0], [] => Jyc id
       | _, _, _ => Qzh E fr o.dst g (first ++ vs)
     | .pv (.fn g) => Qzh E fr o.dst g vs
     | _ => .fail
   | .invoke .. => .fail
 | _ => .fail
def Zb (E : Env) (fr : Nat) (ops : Array Oper) (o : Oper) : Re :=
 match o.guard with
 | none => evOp E fr o
 | some (j, want) => match (ops[j]?).bind (·.dst) with
   | some d => .tmp d fun v => match v with
     | .pv (.bool b) => match want with
       | true => .test b (evOp E fr o) (okV (.tup []))
       | false => .test b (okV (.tup [])) (evOp E fr o)
     | .tup [] => okV (.tup [])
     | _ => .fail
   | none => .fail
def Env.com (E : Env) : Bool := (E.L 2000000 0).isSome
def yzg (o : Oper) : Bool := o.guard.isNone && (match o.op with | .send _ _ => true | .select _ _ => true | _ => false)
def JyQ (P : Program) (t : Nat) : Bool := match P.info? t with | some i => i.zero.isSome | none => false
def ZzN (E : Env) (o : Oper) : Re :=
 Yv E.com (match o.op with
 | .send c v => (rdO c).bind fun c => (rdO v).bind fun v => match c with
   | .chn id => .chn id fun q => match q with
     | some none => Yv o.dst.isNone (.ret (.tup [], [.cset id (some v)]))
     | _ => .fail
   | _ => .fail
 | .select cs blocking => match cs.toList, blocking with
   | [cc], false => Yv (cc.send.isNone && JyQ E.P cc.elem) ((rdO cc.chan).bind fun c => match c with
     | .chn id => .chn id fun q => match q with
       | some (some v) => .ret (.tup [.pv (.int .i64 0), .pv (.bool true), v], [.cset id none])
       | some none => .ret (.tup [.pv (.int .i64 (-1)), .pv (.bool false), .pv .undef], [])
       | none => .fail
     | _ => .fail)
   | _, _ => .fail
 | _ => .fail)
def qzx (E : Env) (fr : Nat) (ops : Array Oper) (o : Oper) : Re :=
 match yzg o with
 | true => ZzN E o
 | false => Zb E fr ops o
def QC (E : Env) (v : View) (o : Oper) : Option (Nat × Rd (List AV)) :=
 match o.op with
 | .call c => match c.callee with
   | .value f => match f with
     | .func g => match E.O g with
       | none => some (g, rdOs c.args.toList)
       | some _ => none
     | .tmp t => match v.tmp t with
       | .fn (.func g) first cap => match jzN E g with
         | true => none
         | false => match E.O g, cap with
           | some _, [] => none
           | _, _ => some (g, (rdOs c.args.toList).bind fun vs => .ret (first ++ vs ++ cap))
       | .pv (.fn g) => match E.O g with
         | none => some (g, rdOs c.args.toList)
         | some _ => none
       | _ => none
     | _ => none
   | _ => none
 | _ => none
def Key.hits : Key → Key → Bool
 | .t a, .t b => a == b
 | .c i o a, .c j p b => i == j && (decide (o < p + b) && decide (p < o + a))
 | .r i, .r j => i == j
 | .n i, .c j _ _ => i == j
 | .n i, .r j => i == j
 | .n i, .n j => i == j
 | .h i, .h j => i == j
 | .n i, .h j => i == j
 | _, _ => false
def Key.objOf : Key → Option Nat
 | .t _ => none
 | .c i _ _ => some i
 | .r i => some i
 | .n i => some i
 | .h i => some i
def Key.clash (a b : Key) : Bool :=
 match a, b with
 | .t x, .t y => x == y
 | a, b => match a.objOf, b.objOf with
   | some x, some y => x == y
   | _, _ => false
def Eff.obj : Eff → Nat
 | .new id _ => id
 | .put id _ _ => id
 | .rset id _ _ _ => id
 | .cset id _ => id
def Eff.fits (m : List (Nat × Ob)) : Eff → Bool
 | .new _ _ => true
 | .put id off vs => match Zz id m with
   | some (.box cs) => decide (off + vs.length ≤ cs.length)
   | _ => false
 | .rset id _ _ _ => match Zz id m with
   | some (.row _ _ _) => true
   | _ => false
 | .cset id _ => match Zz id m with
   | some (.chan _) => true
   | _ => false
def Zn : List (Nat × Ob) → List Eff → Bool
 | _, [] => true
 | m, e :: es => e.fits m && Zn (e.on m) es
structure Done where
 i : Nat
 reads : List Key
 writes : List Key
def Done.apart (a b : Done) : Bool :=
 a.writes.all (fun w => b.reads.all (fun r => !w.hits r) && b.writes.all (fun x => !w.clash x)) && b.writes.all (fun w => a.reads.all (fun r => !w.hits r))
def Oper.waits (o : Oper) (j : Nat) : Bool := o.after.any fun e => Region.binds .any e && e.on == j
def zY (ops : Array Oper) : List Done → Bool
 | [] => true
 | d :: l => l.all (fun e => match ops[d.i]?, ops[e.i]? with
    | some o, some p => Oper.waits o e.i || Oper.waits p d.i || d.apart e
    | _, _ => false) && zY ops l
def JM (ops : Array Oper) : Bool :=
 (List.range ops.size).all fun i => match ops[i]? with
   | some o => o.after.all fun e => !Region.binds .any e || decide (e.on < i)
   | none => false
abbrev Al := List (Nat × Nat)
def Al.put (al : Al) (o : Oper) (v : AV) : Al :=
 match o.dst with
 | none => al
 | some d =>
   let al := al.filter fun p => !(p.1 == d) && !(p.2 == d)
   match o.op, v with
   | .move (.tmp t), .pv (.bool _) => match t == d with
     | true => al
     | false => (d, t) :: al
   | _, _ => al
def subs (al : Al) (d : Nat) (v : AV) (l : List AV) : List AV := al.foldl (fun l p => match p.2 == d with | true => l.set p.1 v | false => l) (l.set d v)
def qzg {α : Type} (s : St) (al : Al) (d : Nat) (k : St → Tr α) : Tr α :=
 match s.tmps.getD d (.pv .undef) with
 | .pv (.bool b) => .test b (k { s with tmps := subs al d (.pv (.bool true)) s.tmps }) (k { s with tmps := subs al d (.pv (.bool false)) s.tmps })
 | _ => k s
def ZyG (ops : Array Oper) (o : Oper) : Option Nat :=
 match o.guard with
 | some (j, _) => (ops[j]?).bind (·.dst)
 | none => match o.op with
   | .pick (.tmp c) _ _ => some c
   | _ => none
def zyy {α : Type} (ops : Array Oper) (o : Oper) (s : St) (al : Al) (k : St → Tr α) : Tr α :=
 match ZyG ops o with
 | some d => qzg s al d k
 | none => k s
def JW (dst : Option Nat) (es : List Eff) : List Key :=
 match dst with
 | some d => Key.t d :: es.map Eff.key
 | none => es.map Eff.key
def Ys : Code → Option Nat
 | .region id _ _ => some id
 | .seq a b => match Ys a with
   | some i => some i
   | none => Ys b
 | .block _ b => Ys b
 | .scope b => Ys b
 | .cond _ a b => match Ys a with
   | some i => some i
   | none => Ys b
 | .loop b => Ys b
 | _ => none
def scrub1 (r : Nat → Option Nat) : AV → AV
 | .ptr id off => match r id with | some j => .ptr j off | none => .pv .undef
 | .own id => match r id with | some j => .own j | none => .pv .undef
 | .chn id => match r id with | some j => .chn j | none => .pv .undef
 | .rpt id i off => match r id with | some j => .rpt j i off | none => .pv .undef
 | v => v
def jg : AV → Bool
 | .pv _ | .lit .. | .ptr .. | .own .. | .rpt .. | .ept .. | .chn _ => true
 | .fn _ [] [] => true
 | _ => false
def scrub (r : Nat → Option Nat) : AV → AV
 | .agg cs => match cs.all jg with | true => .agg (cs.map (scrub1 r)) | false => .pv .undef
 | .tup vs => match vs.all jg with | true => .tup (vs.map (scrub1 r)) | false => .pv .undef
 | .fn f a b => match a.all jg && b.all jg with | true => .fn f (a.map (scrub1 r)) (b.map (scrub1 r)) | false => .pv .undef
 | v => match jg v with | true => scrub1 r v | false => .pv .undef
def YT (r : Nat → Option Nat) : Ob → Ob
 | .box cs => .box (cs.map (scrub r))
 | .chan q => .chan (q.map (scrub r))
 | o => o
def Jg (r : Nat → Option Nat) : List (Nat × Ob) → List (Nat × Ob)
 | [] => []
 | x :: m => match r x.1 with
   | some j => (j, YT r x.2) :: Jg r m
   | none => Jg r m
def YzN : AV → List Nat
 | .ptr id _ => [id]
 | .own id => [id]
 | .rpt id _ _ => [id]
 | .chn id => [id]
 | _ => []
def refs : AV → List Nat
 | .agg cs => cs.flatMap YzN
 | .tup vs => vs.flatMap YzN
 | .fn _ a b => a.flatMap YzN ++ b.flatMap YzN
 | v => YzN v
def zyP : Ob → List Nat
 | .box cs => cs.flatMap refs
 | .row .. => []
 | .chan (some v) => refs v
 | .chan none => []
def yyP (m : List (Nat × Ob)) : Nat → List Nat → List Nat
 | 0, l => l
 | n + 1, l => yyP m n (l ++ m.flatMap fun x => match l.contains x.1 with | true => zyP x.2 | false => [])
def qyP (m : List (Nat × Ob)) (id : Nat) : Bool := match Zz id m with | some (.row ..) => true | _ => false
def zX (r : Nat → Option Nat) (m : List (Nat × Ob)) (j : Nat) : Option Nat := (m.find? fun x => r x.1 == some j).map (·.1)
def QX (r : Nat → Option Nat) (m : List (Nat × Ob)) : Bool := m.all fun x => match r x.1 with
 | some j => zX r m j == some x.1
 | none => true
def maskT (live : List Nat) : Nat → List AV → List AV
 | _, [] => []
 | i, v :: l => (match live.contains i with | true => v | false => .pv .undef) :: maskT live (i + 1) l
def zzn (s : St) (tm : List AV) (c0 : Nat) : Nat → Option Nat :=
 let live := yyP s.mem 3 (tm.flatMap refs ++ s.stack.flatMap fun x => x.2.2.flatMap refs)
 fun id => match live.contains id with
  | true => match decide (id < c0 * 1000) with
    | true => match qyP s.mem id && decide (id / 1000 = s.cur) && decide (id % 1000 < 500) with
      | true => some (id + 500)
      | false => some id
    | false => match qyP s.mem id with
      | true => some (s.cur * 1000 + 900 + id % 97)
      | false => none
  | false => none
def St.cut (s : St) (tm : List AV) (r : Nat → Option Nat) (c0 : Nat) : St :=
 { s with
   tmps := tm.map (scrub r)
   stack := s.stack.map fun x => (x.1, x.2.1, x.2.2.map (scrub r))
   mem := Jg r s.mem
   ctr := c0 }
def St.mask (s : St) (lv : List Nat × List Nat) (c0 : Nat) : St :=
 match QX (zzn s (maskT lv.1 0 s.tmps) c0) s.mem with
 | true => s.cut (maskT lv.1 0 s.tmps) (zzn s (maskT lv.1 0 s.tmps) c0) c0
 | false => s
def QzN (t : Nat) : AV → Bool
 | .lit u [] => u == t
 | _ => false
def wakeIn (t id : Nat) (mem : List (Nat × Ob)) : List Nat → List (Nat × Ob)
 | [] => mem
 | i :: l => match Zz i mem with
   | some (.box cs) => match cs.findIdx? (QzN t) with
     | some j => Yt i (.box (cs.set j (.own id))) ((id, .row 1 t []) :: mem)
     | none => wakeIn t id mem l
   | _ => wakeIn t id mem l
def jzg (t : Nat) (mem : List (Nat × Ob)) : Option Nat := (mem.find? fun x => match x.2 with
 | .row (_ + 1) u _ => u == t
 | _ => false).map (·.1)
def St.wake (P : Program) (t : Nat) (s : St) : St :=
 match jzg t s.mem, Zz (s.cur * 1000 + 700 + t) s.mem, decide ((jy P t).length = Qx P t) with
 | none, none, true => { s with mem := wakeIn t (s.cur * 1000 + 700 + t) s.mem (s.mem.map (·.1)) }
 | _, _, _ => s
def Zzg (j h : Nat) : Nat → Option Nat := fun id => match id == j with
 | true => some h
 | false => some id
def St.home (t : Nat) (s : St) : St :=
 match jzg t s.mem with
 | some j => match j == s.cur * 1000 + 700 + t with
   | true => s
   | false => match QX (Zzg j (s.cur * 1000 + 700 + t)) s.mem with
     | true => s.cut s.tmps (Zzg j (s.cur * 1000 + 700 + t)) s.ctr
     | false => s
 | none => s
def St.wakes (P : Program) : List Nat → St → St
 | [], s => s
 | t :: l, s => ((s.wake P t).home t).wakes P l
def iter (body : St → Tr (Ex × St)) (head fin : St → St) : Nat → St → Tr (Ex × St)
 | 0, _ => .fail
 | k + 1, s => (body (head s)).bind fun r => match r.1 with
   | .normal => iter body head fin k r.2
   | e => .ret (e, fin r.2)
def JC (E : Env) (f : Nat) (a : Code) (c0 : Nat) : St → St :=
 match (Ys a).bind (E.L f) with
 | some lv => fun t => match E.L 3000000 0 with
   | some l => (t.mask lv.1 c0).wakes E.P l.1.1
   | none => t.mask lv.1 c0
 | none => id
def JzN (E : Env) (f : Nat) (a : Code) (c0 : Nat) : St → St :=
 match (Ys a).bind (E.L f) with
 | some lv => fun t => t.mask lv.2 c0
 | none => id
def Zyk (E : Env) (ec : Code → St → Tr (Ex × St)) (a : Code) (s : St) : Option (Ex × St) :=
 (iter (ec a) (JC E s.fn a s.ctr) (JzN E s.fn a s.ctr) E.N s).run
def jr (E : Env) (fn : Func) (s : St) : Tr AV :=
 (((rdOs' fn.results.toList).run s.view []).bind fun r => match r.1 with
   | [v] => .ret v
   | vs => .ret (.tup vs))
where
 rdOs' : List ResultVar → Rd (List AV)
 | [] => .ret []
 | .tmp t :: l => .tmp t fun v => (rdOs' l).bind fun r => .ret (v :: r)
 | .cell a t :: l => .tmp a fun a => (ZzX E.P t a).bind fun v => (rdOs' l).bind fun r => .ret (v.1 :: r)
def Tr.rd {α : Type} : Tr α → Rd α
 | .ret a => .ret a
 | .test b x y => .test b x.rd y.rd
 | _ => .fail
def Yyk (E : Env) (ec : Code → St → Tr (Ex × St)) (ctr f : Nat) (fn : Func) (c : Code) (ps : List AV) : Tr (AV × List (Nat × Ob)) :=
 (ec c { tmps := ps ++ List.replicate (fn.ntmps - ps.length) (.tup []), stack := [], mem := [], cur := ctr, ctr := ctr + 1, fn := f }).bind fun r =>
   match r.1 with
   | .normal | .ret => (jr E fn r.2).bind fun v => .ret (v, r.2.mem)
   | _ => .fail
def jN {α : Type} : List (Nat × Ob) → Rd α → Rd α
 | [], k => k
 | x :: m, k => .fresh x.1 fun b => Yv b (jN m k)
def Qyk (x : Nat × Ob) : Eff := .new x.1 x.2
def frz (P : Program) (q : AV × List (Nat × Ob)) : Option AV :=
 match q.1, q.2 with
 | .fn (.func g) [] [.ptr i 0], [(j, .box [.pv (.int .i64 n)])] => match i == j, jy P 3 with
   | true, [.int .i64] => some (.fn (.func g) [] [.ept 3 [[.int .i64 n]] 0 0])
   | _, _ => none
 | _, _ => none
def calm : AV → Bool
 | .ept .. => true
 | .fn (.func _) [] [.ept ..] => true
 | _ => false
def zL (E : Env) (ec : Code → St → Tr (Ex × St)) (ctr f : Nat) (vs last : List AV) : Re :=
 match E.P.funcs[f]? with
 | some fn => match fn.body with
   | some c => Yv (last.all calm) ((Ze E.P (fn.params.toList.take vs.length) vs).bind fun ps => (Tr.rd (Yyk E ec ctr f fn c (ps.1.map Qg ++ last))).bind fun q => match frz E.P q with
     | some v => .ret (v, ps.2)
     | none => jN q.2 (.ret (q.1, ps.2 ++ q.2.reverse.map Qyk)))
   | none => .fail
 | none => .fail
def jyP : PV → Bool
 | .int _ _ => true
 | .bool _ => true
 | .str _ => true
 | _ => false
def zzM (E : Env) (ec : Code → St → Tr (Ex × St)) (ctr f id : Nat) (vs : List AV) : Re :=
 match E.P.funcs[f]? with
 | some fn => match fn.body, fn.params.toList with
   | some c, tp :: ts => match E.P.underlying tp with
     | some (.pointer t) => .rng id 0 (jy E.P t).length fun r => match r with
       | some cs => (purs (jy E.P t) cs).bind fun q => Yv q.2.isEmpty ((Ze E.P ts vs).bind fun ps => Yv ps.2.isEmpty
         ((Tr.rd ((ec c { tmps := .ept t [q.1] 0 0 :: ps.1.map Qg ++ List.replicate (fn.ntmps - (ps.1.length + 1)) (.tup []), stack := [], mem := [], cur := ctr, ctr := ctr + 1, fn := f }).bind fun r =>
           match r.1 with
           | .normal | .ret => jr E fn r.2
           | _ => .fail)).bind fun v => match v with
             | .pv p => Yv (jyP p) (.ret (.pv p, []))
             | _ => .fail))
       | none => .fail
     | _ => .fail
   | _, _ => .fail
 | none => .fail
def yzM (E : Env) (ec : Code → St → Tr (Ex × St)) (ctr f : Nat) (vs : List AV) : Re :=
 match vs with
 | .ptr id 0 :: l => zzM E ec ctr f id l
 | l => match l.reverse with
   | .fn (.func g) [] [.ept t xs i off] :: r => zL E ec ctr f r.reverse [.fn (.func g) [] [.ept t xs i off]]
   | _ => zL E ec ctr f l []
def qzM (E : Env) (o : Oper) : Option (Call × Nat) :=
 match o.guard, o.op with
 | none, .call c => match c.callee with
   | .value (.func g) => match E.O g with
     | none => some (c, g)
     | some _ => none
   | _ => none
 | _, _ => none
def yyy (o : Oper) : Option (Call × Nat) :=
 match o.guard, o.op with
 | none, .call c => match c.callee with
   | .value (.tmp t) => some (c, t)
   | _ => none
 | _, _ => none
def jzx (E : Env) (ec : Code → St → Tr (Ex × St)) (fr ctr : Nat) (ops : Array Oper) (o : Oper) : Re :=
 match qzM E o with
 | some (c, g) => (rdOs c.args.toList).bind (yzM E ec ctr g)
 | none => match yyy o with
   | some (c, t) => .tmp t fun v => match v with
     | .fn (.func g) [] [.ept t xs i off] => (rdOs c.args.toList).bind fun vs => zL E ec ctr g vs [.ept t xs i off]
     | _ => qzx E fr ops o
   | none => qzx E fr ops o
def jzM (E : Env) (v : View) (o : Oper) : Bool :=
 match qzM E o with
 | some _ => true
 | none => match (yyy o).map fun c => v.tmp c.2 with
   | some (.fn (.func _) [] [.ept ..]) => true
   | _ => match QC E v o with
     | some _ => false
     | none => true
def QT (E : Env) (ec : Code → St → Tr (Ex × St)) (ops : Array Oper) : List Nat → St → Al → List Done → Tr (St × List Done)
 | [], s, _, ds => .ret (s, ds)
 | i :: l, s, al, ds => match ops[i]? with
   | some o => zyy ops o s al fun s => match jzM E s.view o with
     | false => .fail
     | true => ((jzx E ec s.cur s.ctr ops o).run s.view []).bind fun r => match Zn s.mem r.1.2 with
       | true => QT E ec ops l (s.app o.dst r.1) (al.put o r.1.1) (⟨i, r.2, JW o.dst r.1.2⟩ :: ds)
       | false => .fail
   | none => .fail
def bump (E : Env) (ops : Array Oper) (s : St) : St :=
 match ops.any fun o => (qzM E o).isSome with
 | true => { s with ctr := s.ctr + 20 }
 | false => s
def ZzM (E : Env) (ec : Code → St → Tr (Ex × St)) (s : St) (f : Nat) (vs : List AV) : Tr (AV × St) :=
 match E.P.funcs[f]? with
 | some fn => match fn.body with
   | some c => (ec c { tmps := vs ++ List.replicate (fn.ntmps - vs.length) (.tup []), stack := (s.cur, s.fn, s.tmps) :: s.stack, mem := s.mem, cur := s.ctr, ctr := s.ctr + 1, fn := f }).bind fun r =>
     match r.1 with
     | .normal | .ret => (jr E fn r.2).bind fun v => match r.2.stack with
       | (cur, g, tmps) :: st => .ret (v, { r.2 with tmps, stack := st, cur, fn := g })
       | [] => .fail
     | _ => .fail
   | none => .fail
 | none => .fail
def yzn (E : Env) (ec : Code → St → Tr (Ex × St)) (ops : Array Oper) : List Nat → St → Al → Tr St
 | [], s, _ => .ret s
 | i :: l, s, al => match ops[i]? with
   | some o => zyy ops o s al fun s => match o.guard, QC E s.view o with
     | none, some (f, args) => (args.run s.view []).bind fun vs => (ZzM E ec s f vs.1).bind fun r => yzn E ec ops l (r.2.put o.dst r.1) []
     | _, _ => ((qzx E s.cur ops o).run s.view []).bind fun r => yzn E ec ops l (s.app o.dst r.1) (al.put o r.1.1)
   | none => .fail
def Yzg (E : Env) (f : Nat) (a : Code) : Bool := match Ys a with
 | some i => (E.L f (4000000 + i)).isSome
 | none => false
def YzM {β : Type} (a : AV) (k : AV → β) : β :=
 match a with
 | .pv p => k (.pv p)
 | .lit t xs => k (.lit t xs)
 | .ptr id off => k (.ptr id off)
 | .own id => k (.own id)
 | .rpt id i off => k (.rpt id i off)
 | .ept t xs i off => k (.ept t xs i off)
 | .pts id offs => k (.pts id offs)
 | .pel id offs i => k (.pel id offs i)
 | .psel id offs i => k (.psel id offs i)
 | .chn id => k (.chn id)
 | .fn f first cap => k (.fn f first cap)
 | .iface t v => k (.iface t v)
 | .agg cs => k (.agg cs)
 | .tup vs => k (.tup vs)
def yL {β : Type} : List AV → (List AV → β) → β
 | [], k => k []
 | a :: l, k => YzM a fun a => yL l fun l => k (a :: l)
def QzM {β : Type} (a : AV) (k : AV → β) : β :=
 match a with
 | .agg cs => yL cs fun cs => k (.agg cs)
 | .tup cs => yL cs fun cs => k (.tup cs)
 | .fn f first cap => yL first fun first => yL cap fun cap => k (.fn f first cap)
 | a => YzM a k
def JT {β : Type} : List AV → (List AV → β) → β
 | [], k => k []
 | a :: l, k => QzM a fun a => JT l fun l => k (a :: l)
def Qzg {β : Type} : List (Nat × Nat × List AV) → (List (Nat × Nat × List AV) → β) → β
 | [], k => k []
 | (i, j, l) :: r, k => JT l fun l => Qzg r fun r => k ((i, j, l) :: r)
def JR {β : Type} : List (Nat × Ob) → (List (Nat × Ob) → β) → β
 | [], k => k []
 | (i, o) :: r, k => match o with
   | .box cs => JT cs fun cs => JR r fun r => k ((i, .box cs) :: r)
   | .row m t xs => JR r fun r => k ((i, .row m t xs) :: r)
   | .chan q => JR r fun r => k ((i, .chan q) :: r)
def St.force {β : Type} (s : St) (k : St → β) : β :=
 match s with
 | ⟨tmps, stack, mem, cur, ctr, fn⟩ => JT tmps fun tmps => Qzg stack fun stack => JR mem fun mem => k ⟨tmps, stack, mem, cur, ctr, fn⟩
theorem Zzx {β : Type} (a : AV) (k : AV → β) : YzM a k = k a := by cases a <;> rfl
theorem Yzx {β : Type} : ∀ (l : List AV) (k : List AV → β), yL l k = k l
 | [], _ => rfl
 | a :: l, k => by simp only [yL, Zzx, Yzx l]
theorem JzM {β : Type} (a : AV) (k : AV → β) : QzM a k = k a := by
 cases a <;> simp only [QzM, Yzx, Zzx]
theorem yY {β : Type} : ∀ (l : List AV) (k : List AV → β), JT l k = k l
 | [], _ => rfl
 | a :: l, k => by simp only [JT, JzM, yY l]
theorem Qzx {β : Type} : ∀ (l : List (Nat × Nat × List AV)) (k : List (Nat × Nat × List AV) → β), Qzg l k = k l
 | [], _ => rfl
 | (i, j, l) :: r, k => by simp only [Qzg, yY, Qzx r]
theorem zV {β : Type} : ∀ (l : List (Nat × Ob)) (k : List (Nat × Ob) → β), JR l k = k l
 | [], _ => rfl
 | (i, .box cs) :: r, k => by simp only [JR, yY, zV r]
 | (i, .row m t xs) :: r, k => by simp only [JR, zV r]
 | (i, .chan q) :: r, k => by simp only [JR, zV r]
theorem St.force_eq {β : Type} (s : St) (k : St → β) : s.force k = k s := by
 cases s
 simp only [St.force, yY, Qzx, zV]
def zu (E : Env) : Nat → Code → St → Tr (Ex × St)
 | 0, _, _ => .fail
 | n + 1, c, s => match c with
   | .skip => .ret (.normal, s)
   | .region _ ops false => (yzn E (zu E n) ops (List.range ops.size) s []).bind fun s => s.force fun s => .ret (.normal, s)
   | .region _ ops true => (QT E (zu E n) ops (List.range ops.size) s [] []).bind fun r => match JM ops && zY ops r.2 with
     | true => (bump E ops r.1).force fun s => .ret (.normal, s)
     | false => .fail
   | .seq a b => (zu E n a s).bind fun r => match r.1 with
     | .normal => zu E n b r.2
     | e => .ret (e, r.2)
   | .cond x a b => match x with
     | .tmp d => qzg s [] d fun s => match s.tmps.getD d (.pv .undef) with
       | .pv (.bool t) => .test t (zu E n a s) (zu E n b s)
       | _ => .fail
     | .const (.bool t) => .test t (zu E n a s) (zu E n b s)
     | _ => .fail
   | .block id a => (zu E n a s).bind fun r => match r.1 with
     | .exit j => match j == id with
       | true => .ret (.normal, r.2)
       | false => .ret (.exit j, r.2)
     | e => .ret (e, r.2)
   | .loop a => match Yzg E s.fn a with
     | true => match (E.L s.fn 5000000).isSome with
       | true => iter (zu E n a) (JC E s.fn a s.ctr) (JzN E s.fn a s.ctr) 20 s
       | false => iter (zu E n a) id id 20 s
     | false => .wait n a s (Zyk E (zu E n) a s) .ret
   | .exit id => .ret (.exit id, s)
   | .scope a => (zu E n a s).bind fun r => match r.1 with
     | .goto l => match findLabel a l with
       | some rest => (zu E n rest r.2).bind fun q => match q.1 with
         | .goto _ => .fail
         | e => .ret (e, q.2)
       | none => .fail
     | e => .ret (e, r.2)
   | .label _ => .ret (.normal, s)
   | .goto l => .ret (.goto l, s)
   | .ret => .ret (.ret, s)
   | _ => .fail
end Go.Proofs.YtgfnpgnfklcicaaGreatS
namespace Go.Proofs.YtgfnpgnfklcicaaGreatS
open Go Go.RowKit
def PV.one : PV → Bool
 | .undef => false
 | .agg _ => false
 | .tup _ => false
 | _ => true
def cf : K → PV → Prop
 | .int k, p => ∃ n, p = .int k n
 | .bool, p => ∃ b, p = .bool b
 | .str, p => ∃ s, p = .str s
 | .list t, p => ∃ xs, p = .list t xs
 | .fn, p => (∃ f, p = .fn f) ∨ p = .nilfn
 | .any, p => p.one = true
def cfs : List K → List PV → Prop
 | [], [] => True
 | k :: ks, p :: ps => cf k p ∧ cfs ks ps
 | _, _ => False
theorem cf.one {k : K} {p : PV} (h : cf k p) : p.one = true := by
 cases k <;> simp only [cf] at h
 case int => obtain ⟨n, rfl⟩ := h; rfl
 case bool => obtain ⟨n, rfl⟩ := h; rfl
 case str => obtain ⟨n, rfl⟩ := h; rfl
 case list => obtain ⟨n, rfl⟩ := h; rfl
 case fn => rcases h with ⟨f, rfl⟩ | rfl <;> rfl
 case any => exact h
theorem cfs.length : ∀ {ks : List K} {ps : List PV}, cfs ks ps → ps.length = ks.length
 | [], [], _ => rfl
 | _ :: _, _ :: _, h => by simp [cfs.length h.2]
 | [], _ :: _, h => h.elim
 | _ :: _, [], h => h.elim
def Lies (w : World) (S : Nat → Nat → Prop) (A : Option Addr) (us : List Value) : Prop :=
 us = [] ∨ ∃ b o, A = some ⟨b, o, none⟩ ∧ w.rangeAt b o us ∧ ∀ j, j < us.length → ¬ S b (o + j)
section
variable (P : Program) (w : World) (S : Nat → Nat → Prop)
mutual
def VP : PV → Value → Prop
 | .undef, _ => True
 | .int k n, v => v = .int k n
 | .bool b, v => v = .bool b
 | .str s, v => v = .string s
 | .fn f, v => v = .func (.func f) #[] #[]
 | .nilfn, v => v = .nilFunc
 | .nilp, v => v = .pointer none
 | .nili, v => v = .nilIface
 | .agg cs, v => ∃ vs : List Value, v = .agg vs.toArray ∧ VPs cs vs
 | .tup cs, v => ∃ vs : List Value, v = .tuple vs.toArray ∧ VPs cs vs
 | .list t xs, v => ∃ A cap us, v = .slice A xs.length cap ∧ xs.length ≤ cap ∧ (∀ e ∈ xs, cfs (jy P t) e) ∧ Lies w S A us ∧ VPss xs us
def VPs : List PV → List Value → Prop
 | [], vs => vs = []
 | c :: cs, vs => ∃ u us, vs = u :: us ∧ VP c u ∧ VPs cs us
def VPss : List (List PV) → List Value → Prop
 | [], us => us = []
 | e :: xs, us => ∃ u1 u2, us = u1 ++ u2 ∧ VPs e u1 ∧ VPss xs u2
end
end
structure Cx where
 w : World
 S : Nat → Nat → Prop
 mu : Nat → Option Nat
 ka : Nat → Nat
 rt : Nat → Option (Nat × Nat)
section
variable (P : Program) (c : Cx)
mutual
def VA : AV → Value → Prop
 | .pv p, v => VP P c.w c.S p v
 | .lit t xs, v => ∃ A us, v = .slice A xs.length xs.length ∧ (∀ e ∈ xs, cfs (jy P t) e) ∧ Lies c.w c.S A us ∧ VPss P c.w c.S xs us
 | .ptr id off, v => ∃ b, c.mu id = some b ∧ v = .pointer (some ⟨b, off, none⟩)
 | .own id, v => ∃ t n, c.rt id = some (t, n) ∧ ((∃ b, c.mu id = some b ∧ v = .slice (some ⟨b, 0, none⟩) n (c.ka id)) ∨ (c.mu id = none ∧ n = 0 ∧ ∃ A, v = .slice A 0 0))
 | .rpt id i off, v => ∃ b t n, c.mu id = some b ∧ c.rt id = some (t, n) ∧ i < n ∧ v = .pointer (some ⟨b, i * (jy P t).length + off, none⟩)
 | .ept t xs i off, v => ∃ b o us, (∀ e ∈ xs, cfs (jy P t) e) ∧ i < xs.length ∧ Lies c.w c.S (some ⟨b, o, none⟩) us ∧ VPss P c.w c.S xs us ∧ v = .pointer (some ⟨b, o + i * (jy P t).length + off, none⟩)
 | .pts id offs, v => ∃ b A, c.mu id = some b ∧ v = .slice A offs.length offs.length ∧ Lies c.w c.S A (offs.map fun o => .pointer (some ⟨b, o, none⟩))
 | .pel id offs i, v => ∃ b b2 o, c.mu id = some b ∧ i < offs.length ∧ Lies c.w c.S (some ⟨b2, o, none⟩) (offs.map fun o => .pointer (some ⟨b, o, none⟩)) ∧ v = .pointer (some ⟨b2, o + i, none⟩)
 | .psel id offs i, v => ∃ b o, c.mu id = some b ∧ offs[i]? = some o ∧ v = .pointer (some ⟨b, o, none⟩)
 | .chn id, v => ∃ b, c.mu id = some b ∧ v = .chan (some b)
 | .fn f first cap, v => ∃ as bs : List Value, v = .func f as.toArray bs.toArray ∧ VAs first as ∧ VAs cap bs
 | .iface t a, v => ∃ u, v = .iface t u ∧ VA a u
 | .agg cs, v => ∃ vs : List Value, v = .agg vs.toArray ∧ VAs cs vs
 | .tup cs, v => ∃ vs : List Value, v = .tuple vs.toArray ∧ VAs cs vs
def VAs : List AV → List Value → Prop
 | [], vs => vs = []
 | a :: as, vs => ∃ u us, vs = u :: us ∧ VA a u ∧ VAs as us
end
end
def Keep (w : World) (S : Nat → Nat → Prop) (w' : World) (S' : Nat → Nat → Prop) : Prop :=
 ∀ b o u, w.cell? ⟨b, o, none⟩ = some u → ¬ S b o → w'.cell? ⟨b, o, none⟩ = some u ∧ ¬ S' b o
theorem Keep.refl (w : World) (S : Nat → Nat → Prop) : Keep w S w S := fun _ _ _ h k => ⟨h, k⟩
theorem Keep.trans {w w' w'' : World} {S S' S'' : Nat → Nat → Prop} (h : Keep w S w' S') (k : Keep w' S' w'' S'') : Keep w S w'' S'' := fun b o u hc hs =>
 let ⟨h1, h2⟩ := h b o u hc hs
 k b o u h1 h2
theorem Lies.keep {w w' : World} {S S' : Nat → Nat → Prop} {A : Option Addr} {us : List Value} (h : Lies w S A us) (k : Keep w S w' S') : Lies w' S' A us := by
 rcases h with h | ⟨b, o, hA, hr, hs⟩
 · exact .inl h
 · have key : ∀ j u, us[j]? = some u → w'.cell? ⟨b, o + j, none⟩ = some u ∧ ¬ S' b (o + j) := fun j u hu => k b (o + j) u (hr j u hu) (hs j (List.getElem?_eq_some_iff.1 hu).1)
   exact .inr ⟨b, o, hA, fun j u hu => (key j u hu).1, fun j hj => (key j us[j] (List.getElem?_eq_getElem hj)).2⟩
section
variable {P : Program} {w w' : World} {S S' : Nat → Nat → Prop}
mutual
theorem VP.keep (k : Keep w S w' S') : ∀ (p : PV) (v : Value), VP P w S p v → VP P w' S' p v
 | .undef, _, h => by simp only [VP]
 | .int _ _, _, h => by simpa only [VP] using h
 | .bool _, _, h => by simpa only [VP] using h
 | .str _, _, h => by simpa only [VP] using h
 | .fn _, _, h => by simpa only [VP] using h
 | .nilfn, _, h => by simpa only [VP] using h
 | .nilp, _, h => by simpa only [VP] using h
 | .nili, _, h => by simpa only [VP] using h
 | .agg cs, _, h => by
   simp only [VP] at h ⊢
   obtain ⟨vs, h1, h2⟩ := h
   exact ⟨vs, h1, VPs.keep k cs vs h2⟩
 | .tup cs, _, h => by
   simp only [VP] at h ⊢
   obtain ⟨vs, h1, h2⟩ := h
   exact ⟨vs, h1, VPs.keep k cs vs h2⟩
 | .list t xs, _, h => by
   simp only [VP] at h ⊢
   obtain ⟨A, cap, us, h1, h2, h3, h4, h5⟩ := h
   exact ⟨A, cap, us, h1, h2, h3, h4.keep k, VPss.keep k xs us h5⟩
theorem VPs.keep (k : Keep w S w' S') : ∀ (cs : List PV) (vs : List Value), VPs P w S cs vs → VPs P w' S' cs vs
 | [], _, h => by simpa only [VPs] using h
 | c :: cs, _, h => by
   simp only [VPs] at h ⊢
   obtain ⟨u, us, h1, h2, h3⟩ := h
   exact ⟨u, us, h1, VP.keep k c u h2, VPs.keep k cs us h3⟩
theorem VPss.keep (k : Keep w S w' S') : ∀ (xs : List (List PV)) (us : List Value), VPss P w S xs us → VPss P w' S' xs us
 | [], _, h => by simpa only [VPss] using h
 | e :: xs, _, h => by
   simp only [VPss] at h ⊢
   obtain ⟨u1, u2, h1, h2, h3⟩ := h
   exact ⟨u1, u2, h1, VPs.keep k e u1 h2, VPss.keep k xs u2 h3⟩
end
end
structure Cx.Le (c c' : Cx) : Prop where
 keep : Keep c.w c.S c'.w c'.S
 mu : ∀ id b, c.mu id = some b → c'.mu id = some b
 rt : ∀ id x, c.rt id = some x → c'.rt id = some x ∧ c'.mu id = c.mu id ∧ c'.ka id = c.ka id
theorem Cx.Le.refl (c : Cx) : c.Le c := ⟨Keep.refl _ _, fun _ _ h => h, fun _ _ h => ⟨h, rfl, rfl⟩⟩
theorem Cx.Le.trans {a b c : Cx} (h : a.Le b) (k : b.Le c) : a.Le c :=
 ⟨h.keep.trans k.keep, fun id x hx => k.mu id x (h.mu id x hx), fun id x hx => by
  obtain ⟨h1, h2, h3⟩ := h.rt id x hx
  obtain ⟨k1, k2, k3⟩ := k.rt id x h1
  exact ⟨k1, k2.trans h2, k3.trans h3⟩⟩
section
variable {P : Program} {c c' : Cx}
mutual
theorem VA.le (k : c.Le c') : ∀ (a : AV) (v : Value), VA P c a v → VA P c' a v
 | .pv p, v, h => by simp only [VA] at h ⊢; exact VP.keep k.keep p v h
 | .lit t xs, v, h => by
   simp only [VA] at h ⊢
   obtain ⟨A, us, h1, h2, h3, h4⟩ := h
   exact ⟨A, us, h1, h2, h3.keep k.keep, VPss.keep k.keep xs us h4⟩
 | .ptr id off, v, h => by
   simp only [VA] at h ⊢
   obtain ⟨b, h1, h2⟩ := h
   exact ⟨b, k.mu id b h1, h2⟩
 | .own id, v, h => by
   simp only [VA] at h ⊢
   obtain ⟨t, n, h1, h2⟩ := h
   obtain ⟨k1, k2, k3⟩ := k.rt id _ h1
   refine ⟨t, n, k1, ?_⟩
   rw [k2, k3]
   exact h2
 | .rpt id i off, v, h => by
   simp only [VA] at h ⊢
   obtain ⟨b, t, n, h1, h2, h3⟩ := h
   exact ⟨b, t, n, k.mu id b h1, (k.rt id _ h2).1, h3⟩
 | .ept t xs i off, v, h => by
   simp only [VA] at h ⊢
   obtain ⟨b, o, us, h1, h2, h3, h4, h5⟩ := h
   exact ⟨b, o, us, h1, h2, h3.keep k.keep, VPss.keep k.keep xs us h4, h5⟩
 | .pts id offs, v, h => by
   simp only [VA] at h ⊢
   obtain ⟨b, A, h1, h2, h3⟩ := h
   exact ⟨b, A, k.mu id b h1, h2, h3.keep k.keep⟩
 | .pel id offs i, v, h => by
   simp only [VA] at h ⊢
   obtain ⟨b, b2, o, h1, h2, h3, h4⟩ := h
   exact ⟨b, b2, o, k.mu id b h1, h2, h3.keep k.keep, h4⟩
 | .psel id offs i, v, h => by
   simp only [VA] at h ⊢
   obtain ⟨b, o, h1, h2, h3⟩ := h
   exact ⟨b, o, k.mu id b h1, h2, h3⟩
 | .chn id, v, h => by
   simp only [VA] at h ⊢
   obtain ⟨b, h1, h2⟩ := h
   exact ⟨b, k.mu id b h1, h2⟩
 | .fn f first cap, v, h => by
   simp only [VA] at h ⊢
   obtain ⟨as, bs, h1, h2, h3⟩ := h
   exact ⟨as, bs, h1, VAs.le k first as h2, VAs.le k cap bs h3⟩
 | .iface t a, v, h => by
   simp only [VA] at h ⊢
   obtain ⟨u, h1, h2⟩ := h
   exact ⟨u, h1, VA.le k a u h2⟩
 | .agg cs, v, h => by
   simp only [VA] at h ⊢
   obtain ⟨vs, h1, h2⟩ := h
   exact ⟨vs, h1, VAs.le k cs vs h2⟩
 | .tup cs, v, h => by
   simp only [VA] at h ⊢
   obtain ⟨vs, h1, h2⟩ := h
   exact ⟨vs, h1, VAs.le k cs vs h2⟩
theorem VAs.le (k : c.Le c') : ∀ (as : List AV) (vs : List Value), VAs P c as vs → VAs P c' as vs
 | [], _, h => by simpa only [VAs] using h
 | a :: as, _, h => by
   simp only [VAs] at h ⊢
   obtain ⟨u, us, h1, h2, h3⟩ := h
   exact ⟨u, us, h1, VA.le k a u h2, VAs.le k as us h3⟩
end
end
section
variable {P : Program} {c : Cx} {w : World} {S : Nat → Nat → Prop}
theorem VAs.length : ∀ {as : List AV} {vs : List Value}, VAs P c as vs → vs.length = as.length
 | [], _, h => by simp only [VAs] at h; simp [h]
 | _ :: as, _, h => by
   simp only [VAs] at h
   obtain ⟨u, us, rfl, _, h3⟩ := h
   simp [VAs.length h3]
theorem VPs.length : ∀ {as : List PV} {vs : List Value}, VPs P w S as vs → vs.length = as.length
 | [], _, h => by simp only [VPs] at h; simp [h]
 | _ :: as, _, h => by
   simp only [VPs] at h
   obtain ⟨u, us, rfl, _, h3⟩ := h
   simp [VPs.length h3]
theorem VAs.get : ∀ {as : List AV} {vs : List Value}, VAs P c as vs → ∀ {i : Nat} {a : AV}, as[i]? = some a → ∃ v, vs[i]? = some v ∧ VA P c a v
 | [], _, _, i, a, h => by simp at h
 | a :: as, _, h, i, b, hi => by
   simp only [VAs] at h
   obtain ⟨u, us, rfl, h2, h3⟩ := h
   cases i with
   | zero => simp at hi; exact ⟨u, rfl, hi ▸ h2⟩
   | succ i => simpa using h3.get (by simpa using hi)
theorem VPs.get : ∀ {as : List PV} {vs : List Value}, VPs P w S as vs → ∀ {i : Nat} {a : PV}, as[i]? = some a → ∃ v, vs[i]? = some v ∧ VP P w S a v
 | [], _, _, i, a, h => by simp at h
 | a :: as, _, h, i, b, hi => by
   simp only [VPs] at h
   obtain ⟨u, us, rfl, h2, h3⟩ := h
   cases i with
   | zero => simp at hi; exact ⟨u, rfl, hi ▸ h2⟩
   | succ i => simpa using h3.get (by simpa using hi)
theorem VAs.of_get : ∀ {as : List AV} {vs : List Value}, vs.length = as.length → (∀ (i : Nat) (a : AV) (v : Value), as[i]? = some a → vs[i]? = some v → VA P c a v) → VAs P c as vs
 | [], vs, h, _ => by simp only [VAs]; exact List.length_eq_zero_iff.1 h
 | a :: as, [], h, _ => by simp at h
 | a :: as, v :: vs, h, k => by
   simp only [VAs]
   exact ⟨v, vs, rfl, k 0 a v rfl rfl, VAs.of_get (by simpa using h) fun i a' v' h1 h2 => k (i + 1) a' v' (by simpa using h1) (by simpa using h2)⟩
theorem VPs.of_get : ∀ {as : List PV} {vs : List Value}, vs.length = as.length → (∀ (i : Nat) (a : PV) (v : Value), as[i]? = some a → vs[i]? = some v → VP P w S a v) → VPs P w S as vs
 | [], vs, h, _ => by simp only [VPs]; exact List.length_eq_zero_iff.1 h
 | a :: as, [], h, _ => by simp at h
 | a :: as, v :: vs, h, k => by
   simp only [VPs]
   exact ⟨v, vs, rfl, k 0 a v rfl rfl, VPs.of_get (by simpa using h) fun i a' v' h1 h2 => k (i + 1) a' v' (by simpa using h1) (by simpa using h2)⟩
theorem VAs.append {as bs : List AV} {vs us : List Value} (h : VAs P c as vs) (k : VAs P c bs us) : VAs P c (as ++ bs) (vs ++ us) := by
 refine VAs.of_get (by simp [h.length, k.length]) fun i a v h1 h2 => ?_
 rcases Nat.lt_or_ge i as.length with hi | hi
 · rw [List.getElem?_append_left hi] at h1
   rw [List.getElem?_append_left (by rw [h.length]; exact hi)] at h2
   obtain ⟨v', h3, h4⟩ := h.get h1
   rw [h2] at h3; cases h3; exact h4
 · rw [List.getElem?_append_right hi] at h1
   rw [List.getElem?_append_right (by rw [h.length]; exact hi), h.length] at h2
   obtain ⟨v', h3, h4⟩ := k.get h1
   rw [h2] at h3; cases h3; exact h4
theorem VAs.take {as : List AV} {vs : List Value} (h : VAs P c as vs) (n : Nat) : VAs P c (as.take n) (vs.take n) := by
 refine VAs.of_get (by simp [h.length]) fun i a v h1 h2 => ?_
 rw [List.getElem?_take] at h1 h2
 split at h1
 · rename_i hi
   rw [if_pos hi] at h2
   obtain ⟨v', h3, h4⟩ := h.get h1
   rw [h2] at h3; cases h3; exact h4
 · cases h1
theorem VAs.drop {as : List AV} {vs : List Value} (h : VAs P c as vs) (n : Nat) : VAs P c (as.drop n) (vs.drop n) := by
 refine VAs.of_get (by simp [h.length]) fun i a v h1 h2 => ?_
 rw [List.getElem?_drop] at h1 h2
 obtain ⟨v', h3, h4⟩ := h.get h1
 rw [h2] at h3; cases h3; exact h4
theorem VPs.take {as : List PV} {vs : List Value} (h : VPs P w S as vs) (n : Nat) : VPs P w S (as.take n) (vs.take n) := by
 refine VPs.of_get (by simp [h.length]) fun i a v h1 h2 => ?_
 rw [List.getElem?_take] at h1 h2
 split at h1
 · rename_i hi
   rw [if_pos hi] at h2
   obtain ⟨v', h3, h4⟩ := h.get h1
   rw [h2] at h3; cases h3; exact h4
 · cases h1
theorem VPs.drop {as : List PV} {vs : List Value} (h : VPs P w S as vs) (n : Nat) : VPs P w S (as.drop n) (vs.drop n) := by
 refine VPs.of_get (by simp [h.length]) fun i a v h1 h2 => ?_
 rw [List.getElem?_drop] at h1 h2
 obtain ⟨v', h3, h4⟩ := h.get h1
 rw [h2] at h3; cases h3; exact h4
theorem VAs.set {as : List AV} {vs : List Value} (h : VAs P c as vs) (d : Nat) {a : AV} {v : Value} (k : VA P c a v) : VAs P c (as.set d a) (vs.set d v) := by
 refine VAs.of_get (by simp [h.length]) fun i a' v' h1 h2 => ?_
 rw [List.getElem?_set] at h1 h2
 by_cases e : d = i
 · rw [if_pos e] at h1 h2
   split at h1
   · rename_i hi
     rw [if_pos (by rw [h.length]; exact hi)] at h2
     cases h1; cases h2; exact k
   · cases h1
 · rw [if_neg e] at h1 h2
   obtain ⟨v'', h3, h4⟩ := h.get h1
   rw [h2] at h3; cases h3; exact h4
theorem VAs.mapPv {cs : List PV} {vs : List Value} (h : VPs P c.w c.S cs vs) : VAs P c (cs.map .pv) vs := by
 refine VAs.of_get (by simp [h.length]) fun i a v h1 h2 => ?_
 rw [List.getElem?_map] at h1
 obtain ⟨p, hp, rfl⟩ := Option.map_eq_some_iff.1 h1
 obtain ⟨v', h3, h4⟩ := h.get hp
 rw [h2] at h3; cases h3
 simpa only [VA] using h4
theorem VPss.append {xs ys : List (List PV)} {us vs : List Value} (h : VPss P w S xs us) (k : VPss P w S ys vs) : VPss P w S (xs ++ ys) (us ++ vs) := by
 induction xs generalizing us with
 | nil => simp only [VPss] at h; subst h; simpa using k
 | cons e xs ih =>
   simp only [VPss, List.cons_append] at h ⊢
   obtain ⟨u1, u2, rfl, h2, h3⟩ := h
   exact ⟨u1, u2 ++ vs, by simp, h2, ih h3⟩
theorem VPss.length {xs : List (List PV)} {us : List Value} {n : Nat} (h : VPss P w S xs us) (hn : ∀ e ∈ xs, e.length = n) : us.length = xs.length * n := by
 induction xs generalizing us with
 | nil => simp only [VPss] at h; subst h; simp
 | cons e xs ih =>
   simp only [VPss] at h
   obtain ⟨u1, u2, rfl, h2, h3⟩ := h
   rw [List.length_append, ih h3 (fun e' he => hn e' (by simp [he])), h2.length, hn e (by simp), List.length_cons, Nat.add_mul, Nat.one_mul, Nat.add_comm]
theorem VPss.get {xs : List (List PV)} {us : List Value} {n : Nat} (h : VPss P w S xs us) (hn : ∀ e ∈ xs, e.length = n) {i : Nat} {e : List PV} (hi : xs[i]? = some e) : VPs P w S e ((us.drop (i * n)).take n) := by
 induction xs generalizing us i with
 | nil => simp at hi
 | cons e' xs ih =>
   simp only [VPss] at h
   obtain ⟨u1, u2, rfl, h2, h3⟩ := h
   have hl : u1.length = n := by rw [h2.length, hn e' (by simp)]
   cases i with
   | zero =>
     simp at hi; subst hi
     simp only [Nat.zero_mul, List.drop_zero]
     rw [List.take_left' hl]
     exact h2
   | succ i =>
     have := ih h3 (fun e'' he => hn e'' (by simp [he])) (i := i) (by simpa using hi)
     rw [show (i + 1) * n = n + i * n by rw [Nat.add_mul, Nat.one_mul, Nat.add_comm]]
     rw [← List.drop_drop, List.drop_left' hl]
     exact this
theorem VPss.of_get {n : Nat} : ∀ {xs : List (List PV)} {us : List Value}, us.length = xs.length * n → (∀ e ∈ xs, e.length = n) → (∀ (i : Nat) (e : List PV), xs[i]? = some e → VPs P w S e ((us.drop (i * n)).take n)) → VPss P w S xs us
 | [], us, h, _, _ => by simp only [VPss]; exact List.length_eq_zero_iff.1 (by simpa using h)
 | e :: xs, us, h, hn, k => by
   simp only [VPss]
   have h0 := k 0 e rfl
   simp only [Nat.zero_mul, List.drop_zero] at h0
   refine ⟨us.take n, us.drop n, (List.take_append_drop n us).symm, h0, VPss.of_get ?_ (fun e' he => hn e' (by simp [he])) fun i e' hi => ?_⟩
   · rw [List.length_drop, h, List.length_cons, Nat.add_mul, Nat.one_mul]; omega
   · have := k (i + 1) e' (by simpa using hi)
     rw [show (i + 1) * n = n + i * n by rw [Nat.add_mul, Nat.one_mul, Nat.add_comm], ← List.drop_drop] at this
     exact this
theorem VP.one {p : PV} {v : Value} (h : VP P w S p v) (k : p.one = true) : v.oneCell' = true := by
 cases p <;> simp only [VP] at h <;> simp only [PV.one, Bool.false_eq_true] at k
 all_goals first
  | (subst h; rfl)
  | (obtain ⟨A, cap, us, rfl, _⟩ := h; rfl)
theorem VA.one {a : AV} {v : Value} (h : VA P c a v) (k : a.one = true) : v.oneCell' = true := by
 cases a
 case pv p =>
  simp only [VA] at h
  refine VP.one h ?_
  cases p <;> simp_all [AV.one, PV.one]
 all_goals simp only [VA] at h
 case lit t xs => obtain ⟨A, us, rfl, _⟩ := h; rfl
 case ptr => obtain ⟨b, _, rfl⟩ := h; rfl
 case own =>
  obtain ⟨t, n, _, ⟨b, _, rfl⟩ | ⟨_, _, A, rfl⟩⟩ := h <;> rfl
 case rpt => obtain ⟨b, t, n, _, _, _, rfl⟩ := h; rfl
 case ept => obtain ⟨b, o, us, _, _, _, _, rfl⟩ := h; rfl
 case pts => obtain ⟨b, A, _, rfl, _⟩ := h; rfl
 case pel => obtain ⟨b, b2, o, _, _, _, rfl⟩ := h; rfl
 case psel => obtain ⟨b, o, _, _, rfl⟩ := h; rfl
 case chn => obtain ⟨b, _, rfl⟩ := h; rfl
 case fn => obtain ⟨as, bs, rfl, _⟩ := h; rfl
 case iface => obtain ⟨u, rfl, _⟩ := h; rfl
 case agg => simp [AV.one] at k
 case tup => simp [AV.one] at k
theorem VPs.ones {ks : List K} {ps : List PV} {vs : List Value} (h : VPs P w S ps vs) (k : cfs ks ps) : ∀ v ∈ vs, v.oneCell' = true := by
 induction ps generalizing ks vs with
 | nil => simp only [VPs] at h; subst h; intro v hv; cases hv
 | cons p ps ih =>
   simp only [VPs] at h
   obtain ⟨u, us, rfl, h2, h3⟩ := h
   cases ks with
   | nil => exact k.elim
   | cons k' ks =>
     intro v hv
     rcases List.mem_cons.1 hv with rfl | hv
     · exact VP.one h2 k.1.one
     · exact ih h3 k.2 v hv
theorem VPss.ones {ks : List K} {xs : List (List PV)} {vs : List Value} (h : VPss P w S xs vs) (k : ∀ e ∈ xs, cfs ks e) : ∀ v ∈ vs, v.oneCell' = true := by
 induction xs generalizing vs with
 | nil => simp only [VPss] at h; subst h; intro v hv; cases hv
 | cons e xs ih =>
   simp only [VPss] at h
   obtain ⟨u1, u2, rfl, h2, h3⟩ := h
   intro v hv
   rcases List.mem_append.1 hv with hv | hv
   · exact h2.ones (k e (by simp)) v hv
   · exact ih h3 (fun e' he => k e' (by simp [he])) v hv
end
theorem ZyP {k : K} {p : PV} (h : cf k p) : eta k p = p := by
 cases k <;> simp only [cf] at h
 case int => obtain ⟨n, rfl⟩ := h; rfl
 case bool => obtain ⟨n, rfl⟩ := h; rfl
 case str => obtain ⟨n, rfl⟩ := h; rfl
 case list => obtain ⟨n, rfl⟩ := h; rfl
 case fn => rfl
 case any => rfl
theorem Z5 : ∀ {ks : List K} {ps : List PV}, cfs ks ps → etas ks ps = ps
 | [], [], _ => rfl
 | k :: ks, p :: ps, h => by
   simp only [etas, List.headD_cons, List.tail_cons]
   rw [ZyP h.1, Z5 h.2]
 | [], _ :: _, h => h.elim
 | _ :: _, [], h => h.elim
end Go.Proofs.YtgfnpgnfklcicaaGreatS
namespace Go.Proofs.YtgfnpgnfklcicaaGreatS
open Go Go.RowKit
theorem Yy (id j : Nat) (o : Ob) (m : List (Nat × Ob)) : Zz id ((j, o) :: m) = if j = id then some o else Zz id m := rfl
theorem Jy (id : Nat) (o : Ob) : ∀ (m : List (Nat × Ob)) {p : Ob}, Zz id m = some p → Zz id (Yt id o m) = some o
 | [], _, h => by simp [Zz] at h
 | (j, q) :: m, p, h => by
   by_cases e : j = id
   · simp [Yt, Zz, e]
   · simp only [Zz, Yt, if_neg e] at h ⊢
     exact Jy id o m h
theorem zy (id j : Nat) (o : Ob) (hne : j ≠ id) : ∀ (m : List (Nat × Ob)), Zz j (Yt id o m) = Zz j m
 | [] => rfl
 | (k, q) :: m => by
   by_cases e : k = id
   · have : ¬ k = j := fun h => hne (h.symm.trans e)
     simp [Yt, Zz, e, this, Ne.symm hne]
   · simp only [Zz, Yt, if_neg e]
     rw [zy id j o hne m]
def yV (P : Program) : Ob → Nat → Prop
 | .box _, _ => True
 | .row 0 _ _, _ => False
 | .row 1 t xs, o => xs.length * (jy P t).length ≤ o
 | .row _ _ _, _ => True
 | .chan _, _ => True
def live : Ob → Prop
 | .row 0 _ _ => False
 | _ => True
def Smut (P : Program) (S0 : Nat → Nat → Prop) (mem : List (Nat × Ob)) (mu : Nat → Option Nat) (b o : Nat) : Prop :=
 S0 b o ∨ ∃ id ob, Zz id mem = some ob ∧ mu id = some b ∧ yV P ob o
def rtOf (mem : List (Nat × Ob)) (id : Nat) : Option (Nat × Nat) :=
 match Zz id mem with
 | some (.row _ t xs) => some (t, xs.length)
 | _ => none
theorem Jn {mem : List (Nat × Ob)} {id m t : Nat} {xs : List (List PV)} (h : Zz id mem = some (.row m t xs)) : rtOf mem id = some (t, xs.length) := by simp [rtOf, h]
theorem Yi {mem : List (Nat × Ob)} {id : Nat} {x : Nat × Nat} (h : rtOf mem id = some x) : ∃ m t xs, Zz id mem = some (.row m t xs) ∧ x = (t, xs.length) := by
 unfold rtOf at h
 split at h
 · rename_i m t xs hf
   exact ⟨m, t, xs, hf, (Option.some.inj h).symm⟩
 · cases h
structure Out where
 B : Nat
 w0 : World
 S0 : Nat → Nat → Prop
 lt : ∀ b o, S0 b o → b < B
 le : B ≤ w0.heap.size
def cx (P : Program) (X : Out) (mem : List (Nat × Ob)) (mu : Nat → Option Nat) (ka : Nat → Nat) (w : World) : Cx := ⟨w, Smut P X.S0 mem mu, mu, ka, rtOf mem⟩
def OB (P : Program) (c : Cx) (k b : Nat) : Ob → Prop
 | .box cs => ∃ T vs, c.w.heap[b]? = some (.cells vs T (0, 0)) ∧ VAs P c cs vs.toList
 | .row m t xs => (∀ e ∈ xs, cfs (jy P t) e) ∧ (jy P t).length = Qx P t ∧ xs.length ≤ k ∧ match m with
   | 0 => ∃ us, Lies c.w c.S (some ⟨b, 0, none⟩) us ∧ VPss P c.w c.S xs us
   | _ => ∃ vs, c.w.heap[b]? = some (.cells vs t (0, 0)) ∧ k ≤ maxLen ∧ vs.size = k * (jy P t).length ∧ VPss P c.w c.S xs (vs.toList.take (xs.length * (jy P t).length))
 | .chan q => ∃ buf r1 r2, c.w.heap[b]? = some (.chan 1 buf false r1 r2 false) ∧ match q with
   | none => buf = #[]
   | some v => ∃ u, buf = #[u] ∧ VA P c v u
theorem OB.le {P : Program} {c c' : Cx} {k b : Nat} {ob : Ob} (h : OB P c k b ob) (hl : c.Le c') (hh : live ob → c'.w.heap[b]? = c.w.heap[b]?) : OB P c' k b ob := by
 cases ob with
 | box cs =>
   obtain ⟨T, vs, h1, h2⟩ := h
   exact ⟨T, vs, by rw [hh trivial]; exact h1, VAs.le hl cs _ h2⟩
 | row m t xs =>
   obtain ⟨h1, h2, h3, h4⟩ := h
   refine ⟨h1, h2, h3, ?_⟩
   cases m with
   | zero =>
     obtain ⟨us, h5, h6⟩ := h4
     exact ⟨us, h5.keep hl.keep, VPss.keep hl.keep xs us h6⟩
   | succ m =>
     obtain ⟨vs, h5, h6, h7, h8⟩ := h4
     exact ⟨vs, by rw [hh trivial]; exact h5, h6, h7, VPss.keep hl.keep xs _ h8⟩
 | chan q =>
   obtain ⟨buf, r1, r2, h1, h2⟩ := h
   refine ⟨buf, r1, r2, by rw [hh trivial]; exact h1, ?_⟩
   cases q with
   | none => exact h2
   | some v =>
     obtain ⟨u, h3, h4⟩ := h2
     exact ⟨u, h3, VA.le hl v u h4⟩
structure Rel (P : Program) (X : Out) (s : St) (mu : Nat → Option Nat) (ka : Nat → Nat) (cst : List (List Value)) (a : List Value) (w : World) : Prop where
 bel : Below X.B X.w0 w
 blk : ∀ id b, mu id = some b → X.B ≤ b ∧ ∃ ob, Zz id s.mem = some ob
 inj : ∀ i j b oi oj, mu i = some b → mu j = some b → Zz i s.mem = some oi → Zz j s.mem = some oj → live oi → live oj → i = j
 obs : ∀ id ob, Zz id s.mem = some ob → (∃ b, mu id = some b ∧ OB P (cx P X s.mem mu ka w) (ka id) b ob) ∨ (mu id = none ∧ ∃ m t, ob = .row m t [] ∧ (jy P t).length = Qx P t)
 tms : VAs P (cx P X s.mem mu ka w) s.tmps a
 stk : s.stack.length = cst.length ∧ ∀ (i : Nat) (x : Nat × Nat × List AV) (vs : List Value), s.stack[i]? = some x → cst[i]? = some vs → VAs P (cx P X s.mem mu ka w) x.2.2 vs
section
variable {P : Program} {X : Out} {s : St} {mu : Nat → Option Nat} {ka : Nat → Nat} {cst : List (List Value)} {a : List Value} {w : World}
theorem Rel.size (h : Rel P X s mu ka cst a w) : X.B ≤ w.heap.size := Nat.le_trans X.le h.bel.size
theorem Rel.turn (h : Rel P X s mu ka cst a w) {mem' : List (Nat × Ob)} {mu' : Nat → Option Nat} {ka' : Nat → Nat} {w' : World} (hl : (cx P X s.mem mu ka w).Le (cx P X mem' mu' ka' w'))
 (hb : Below X.B X.w0 w') (hk : ∀ id b, mu' id = some b → X.B ≤ b ∧ ∃ ob, Zz id mem' = some ob)
 (hi : ∀ i j b oi oj, mu' i = some b → mu' j = some b → Zz i mem' = some oi → Zz j mem' = some oj → live oi → live oj → i = j)
 (ho : ∀ id ob, Zz id mem' = some ob → (∃ b, mu' id = some b ∧ OB P (cx P X mem' mu' ka' w') (ka' id) b ob) ∨ (mu' id = none ∧ ∃ m t, ob = .row m t [] ∧ (jy P t).length = Qx P t)) :
 Rel P X { s with mem := mem' } mu' ka' cst a w' :=
 ⟨hb, hk, hi, ho, VAs.le hl _ _ h.tms, h.stk.1, fun i x vs h1 h2 => VAs.le hl _ _ (h.stk.2 i x vs h1 h2)⟩
theorem Rel.put (h : Rel P X s mu ka cst a w) (dst : Option Nat) {v : AV} {u : Value} (hv : VA P (cx P X s.mem mu ka w) v u) :
 Rel P X (s.put dst v) mu ka cst (match dst with | some d => a.set d u | none => a) w := by
 cases dst with
 | none => exact h
 | some d => exact ⟨h.bel, h.blk, h.inj, h.obs, VAs.set h.tms d hv, h.stk⟩
theorem zS {c : Cx} {k b : Nat} {ob : Ob} (h : OB P c k b ob) (hl : live ob) : b < c.w.heap.size := by
 cases ob with
 | box cs =>
   obtain ⟨T, vs, h1, _⟩ := h
   exact (Array.getElem?_eq_some_iff.1 h1).1
 | row m t xs =>
   cases m with
   | zero => exact hl.elim
   | succ m =>
     obtain ⟨_, _, _, vs, h1, _⟩ := h
     exact (Array.getElem?_eq_some_iff.1 h1).1
 | chan q =>
   obtain ⟨buf, r1, r2, h1, _⟩ := h
   exact (Array.getElem?_eq_some_iff.1 h1).1
theorem ZN {ob : Ob} {o : Nat} (h : yV P ob o) : live ob := by
 cases ob with
 | box cs => exact trivial
 | chan q => exact trivial
 | row m t xs => cases m with
   | zero => exact h.elim
   | succ m => exact trivial
theorem Rel.mut_lt (h : Rel P X s mu ka cst a w) {b o : Nat} (hs : Smut P X.S0 s.mem mu b o) : b < w.heap.size := by
 rcases hs with hs | ⟨id, ob, h1, h2, h3⟩
 · exact Nat.lt_of_lt_of_le (X.lt b o hs) h.size
 · rcases h.obs id ob h1 with ⟨b', hb', ho⟩ | ⟨hn, _⟩
   · rw [h2] at hb'
     cases hb'
     exact zS ho (ZN h3)
   · rw [h2] at hn
     cases hn
theorem Rel.new (h : Rel P X s mu ka cst a w) {id : Nat} {ob : Ob} (hf : Zz id s.mem = none) {w1 w2 : World} {o : Obj} (hw : w1.heap = w.heap) (hw2 : w2 = w1.alloc o) (hbel : Below X.B X.w0 w1) (k : Nat) :
 (cx P X s.mem mu ka w).Le (cx P X ((id, ob) :: s.mem) (fun i => if i = id then some w.heap.size else mu i) (fun i => if i = id then k else ka i) w2) := by
 have hmu : mu id = none := by
  cases hm : mu id with
  | none => rfl
  | some b => obtain ⟨_, ob', ho⟩ := h.blk id b hm; rw [hf] at ho; cases ho
 subst hw2
 refine ⟨fun b o' u hc hs => ?_, fun i b hi => ?_, fun i x hi => ?_⟩
 · have hlt : b < w.heap.size := World.block_lt_of_cell? _ _ hc
   refine ⟨?_, fun hs' => hs ?_⟩
   · show (w1.alloc o).cell? _ = _
     rw [World.cell?_alloc_lt _ _ _ (by rw [hw]; exact hlt), World.cell?_of_block (w := w) (by rw [hw])]
     exact hc
   · rcases hs' with hs' | ⟨i, ob', h1, h2, h3⟩
     · exact .inl hs'
     · by_cases e : i = id
       · subst e
         simp at h2
         omega
       · simp only [if_neg e] at h2
         rw [Yy, if_neg (fun q => e q.symm)] at h1
         exact .inr ⟨i, ob', h1, h2, h3⟩
 · show (if i = id then some w.heap.size else mu i) = some b
   by_cases e : i = id
   · subst e; have h2 : mu i = some b := hi; rw [hmu] at h2; cases h2
   · rw [if_neg e]; exact hi
 · obtain ⟨m, t, xs, hx, rfl⟩ := Yi hi
   have e : i ≠ id := fun e => by subst e; rw [hf] at hx; cases hx
   refine ⟨?_, by show (if i = id then _ else mu i) = mu i; rw [if_neg e], by show (if i = id then _ else ka i) = ka i; rw [if_neg e]⟩
   show rtOf _ i = _
   simp [rtOf, Yy, Ne.symm e, hx]
theorem Rel.alloc (h : Rel P X s mu ka cst a w) {id : Nat} {ob : Ob} (hf : Zz id s.mem = none) {w1 w2 : World} {o : Obj} (hw : w1.heap = w.heap) (hw2 : w2 = w1.alloc o) (hbel : Below X.B X.w0 w1) (k : Nat)
 (ho : OB P (cx P X ((id, ob) :: s.mem) (fun i => if i = id then some w.heap.size else mu i) (fun i => if i = id then k else ka i) w2) k w.heap.size ob) :
 Rel P X { s with mem := (id, ob) :: s.mem } (fun i => if i = id then some w.heap.size else mu i) (fun i => if i = id then k else ka i) cst a w2 := by
 have hl := h.new (ob := ob) hf hw hw2 hbel k
 have hmu : mu id = none := by
  cases hm : mu id with
  | none => rfl
  | some b => obtain ⟨_, ob', ho⟩ := h.blk id b hm; rw [hf] at ho; cases ho
 have hfr : ∀ i b ob', mu i = some b → Zz i s.mem = some ob' → live ob' → b < w.heap.size := fun i b ob' h1 h2 h3 => by
  rcases h.obs i ob' h2 with ⟨b', hb', ho'⟩ | ⟨hn, _⟩
  · rw [h1] at hb'; cases hb'; exact zS ho' h3
  · rw [h1] at hn; cases hn
 refine h.turn hl (by rw [hw2]; exact hbel.alloc (by rw [hw]; exact h.size) _) ?_ ?_ ?_
 · intro i b hi
   by_cases e : i = id
   · subst e
     simp at hi
     exact ⟨by rw [← hi]; exact h.size, ob, by simp [Yy]⟩
   · simp only [if_neg e] at hi
     obtain ⟨h1, ob', h2⟩ := h.blk i b hi
     exact ⟨h1, ob', by rw [Yy, if_neg (fun q => e q.symm)]; exact h2⟩
 · intro i j b oi oj hi hj fi fj li lj
   by_cases e : i = id
   · by_cases e' : j = id
     · rw [e, e']
     · subst e
       simp only [if_true, if_neg e'] at hi hj
       rw [Yy, if_neg (fun q => e' q.symm)] at fj
       have := hfr j b oj hj fj lj
       cases hi
       omega
   · by_cases e' : j = id
     · subst e'
       simp only [if_true, if_neg e] at hi hj
       rw [Yy, if_neg (fun q => e q.symm)] at fi
       have := hfr i b oi hi fi li
       cases hj
       omega
     · simp only [if_neg e, if_neg e'] at hi hj
       rw [Yy, if_neg (fun q => e q.symm)] at fi
       rw [Yy, if_neg (fun q => e' q.symm)] at fj
       exact h.inj i j b oi oj hi hj fi fj li lj
 · intro i ob' hi
   by_cases e : i = id
   · subst e
     rw [Yy, if_pos rfl] at hi
     cases hi
     refine .inl ⟨w.heap.size, by simp, ?_⟩
     simpa using ho
   · rw [Yy, if_neg (fun q => e q.symm)] at hi
     simp only [if_neg e]
     rcases h.obs i ob' hi with ⟨b, hb, ho'⟩ | hn
     · refine .inl ⟨b, hb, ho'.le hl fun hlv => ?_⟩
       show w2.heap[b]? = w.heap[b]?
       have hlt := hfr i b ob' hb hi hlv
       rw [hw2, heap_alloc_old w1 o b (by rw [hw]; exact hlt), hw]
     · exact .inr hn
end
section
variable {P : Program} {X : Out} {s : St} {mu : Nat → Option Nat} {ka : Nat → Nat} {cst : List (List Value)} {a : List Value} {w : World}
theorem Rel.other (h : Rel P X s mu ka cst a w) {id i b b' : Nat} {ob oi : Ob} (hm : mu id = some b) (hf : Zz id s.mem = some ob) (hl : live ob) (hm' : mu i = some b') (hf' : Zz i s.mem = some oi) (hl' : live oi) (hne : i ≠ id) : b' ≠ b :=
 fun e => hne (h.inj i id b oi ob (e ▸ hm') hm hf' hf hl' hl)
theorem Rel.upd (h : Rel P X s mu ka cst a w) {id : Nat} {ob ob' : Ob} (hf : Zz id s.mem = some ob) {w' : World} (hbel : Below X.B X.w0 w')
 (hS : ∀ b o, Smut P X.S0 (Yt id ob' s.mem) mu b o → Smut P X.S0 s.mem mu b o)
 (hK : ∀ b o u, w.cell? ⟨b, o, none⟩ = some u → ¬ Smut P X.S0 s.mem mu b o → w'.cell? ⟨b, o, none⟩ = some u)
 (hrt : rtOf (Yt id ob' s.mem) id = rtOf s.mem id) (hlv : live ob' → live ob)
 (hh : ∀ b', mu id ≠ some b' ∨ ¬ live ob → w'.heap[b']? = w.heap[b']?)
 (hn : mu id = none → (∃ m t, ob' = .row m t [] ∧ (jy P t).length = Qx P t))
 (ho : ∀ b, mu id = some b → OB P (cx P X (Yt id ob' s.mem) mu ka w') (ka id) b ob') :
 (cx P X s.mem mu ka w).Le (cx P X (Yt id ob' s.mem) mu ka w') ∧ Rel P X { s with mem := Yt id ob' s.mem } mu ka cst a w' := by
 have hfs := Jy id ob' s.mem hf
 have hl : (cx P X s.mem mu ka w).Le (cx P X (Yt id ob' s.mem) mu ka w') := by
  refine ⟨fun b o u hc hs => ⟨hK b o u hc hs, fun q => hs (hS b o q)⟩, fun _ _ q => q, fun i x hx => ⟨?_, rfl, rfl⟩⟩
  by_cases e : i = id
  · subst e; exact hrt.trans hx
  · show rtOf _ i = _
    unfold rtOf
    rw [zy id i ob' e]
    exact hx
 refine ⟨hl, h.turn hl hbel ?_ ?_ ?_⟩
 · intro i b hi
   obtain ⟨h1, o, h2⟩ := h.blk i b hi
   by_cases e : i = id
   · subst e; exact ⟨h1, _, hfs⟩
   · exact ⟨h1, o, by rw [zy id i ob' e]; exact h2⟩
 · intro i j b oi oj hi hj fi fj li lj
   by_cases e : i = id
   · subst e
     rw [hfs] at fi; cases fi
     by_cases e' : j = i
     · exact e'.symm
     · rw [zy i j _ e'] at fj
       exact h.inj i j b ob oj hi hj hf fj (hlv li) lj
   · rw [zy id i _ e] at fi
     by_cases e' : j = id
     · subst e'
       rw [hfs] at fj; cases fj
       exact h.inj i j b oi ob hi hj fi hf li (hlv lj)
     · rw [zy id j _ e'] at fj
       exact h.inj i j b oi oj hi hj fi fj li lj
 · intro i o hi
   by_cases e : i = id
   · subst e
     rw [hfs] at hi; cases hi
     cases hm : mu i with
     | none => exact .inr ⟨rfl, hn hm⟩
     | some b => exact .inl ⟨b, rfl, ho b hm⟩
   · rw [zy id i _ e] at hi
     rcases h.obs i o hi with ⟨b, hb, ho'⟩ | q
     · refine .inl ⟨b, hb, ho'.le hl fun hlo => hh b ?_⟩
       by_cases hlob : live ob
       · refine .inl fun q => ?_
         exact h.other q hf hlob hb hi hlo e rfl
       · exact .inr hlob
     · exact .inr q
theorem qL {w : World} {g : Nat} {cs cs' : Array Value} {T : TypeId} (hg : w.heap[g]? = some (.cells cs T (0, 0))) (o : Nat) : (w.setRow g cs').cell? ⟨g, o, none⟩ = cs'[o]? :=
 cell_of_row _ g o cs' T (0, 0) (setRow_heap w g cs cs' T (0, 0) hg)
theorem Yo {w : World} {g b : Nat} (cs' : Array Value) (h : b ≠ g) (o : Nat) : (w.setRow g cs').cell? ⟨b, o, none⟩ = w.cell? ⟨b, o, none⟩ :=
 World.cell?_of_block (setRow_other w g b cs' h)
theorem Yl {B : Nat} {a w : World} (h : Below B a w) {g : Nat} (hg : B ≤ g) (cs : Array Value) : Below B a (w.setRow g cs) :=
 h.trans ⟨rfl, rfl, rfl, by simp, fun k hk => setRow_other w g k cs (by omega)⟩
theorem zg {S0 : Nat → Nat → Prop} {mem : List (Nat × Ob)} {id : Nat} {ob ob' : Ob} (hf : Zz id mem = some ob) (hm : ∀ o, yV P ob' o → yV P ob o) (b o : Nat) (h : Smut P S0 (Yt id ob' mem) mu b o) : Smut P S0 mem mu b o := by
 rcases h with h | ⟨i, oi, h1, h2, h3⟩
 · exact .inl h
 · by_cases e : i = id
   · subst e
     rw [Jy i ob' mem hf] at h1; cases h1
     exact .inr ⟨i, ob, hf, h2, hm o h3⟩
   · rw [zy id i ob' e] at h1
     exact .inr ⟨i, oi, h1, h2, h3⟩
theorem Qp {α : Type} (l : List α) (off : Nat) (vs : List α) (h : off + vs.length ≤ l.length) : (jx l off vs).length = l.length := by
 unfold jx
 simp only [List.length_append, List.length_take, List.length_drop]
 omega
theorem VAs.spl {c : Cx} {as bs : List AV} {vs us : List Value} (h : VAs P c as vs) (k : VAs P c bs us) (off : Nat) : VAs P c (jx as off bs) (jx vs off us) := by
 unfold jx
 rw [k.length]
 exact ((h.take off).append k).append (h.drop _)
theorem qi {α : Type} (l : List α) (off : Nat) (us : List α) (h : off + us.length ≤ l.length) (k : Nat) : (jx l off us)[k]? = if k < off then l[k]? else if k < off + us.length then us[k - off]? else l[k]? := by
 unfold jx
 have h1 : min off l.length = off := by omega
 rw [List.append_assoc, List.getElem?_append]
 simp only [List.length_take, h1]
 by_cases c1 : k < off
 · rw [if_pos c1, if_pos c1, List.getElem?_take, if_pos c1]
 · rw [if_neg c1, if_neg c1, List.getElem?_append]
   by_cases c2 : k < off + us.length
   · rw [if_pos (by omega), if_pos c2]
   · rw [if_neg (by omega), if_neg c2, List.getElem?_drop]
     congr 1
     omega
theorem qyy {α : Type} (l : List α) (us : List α) (n p off sz : Nat) (h : p + sz ≤ n) (hn : n ≤ l.length) (ho : off + us.length ≤ sz) :
 ((( jx l (p + off) us).take n).drop p).take sz = jx (((l.take n).drop p).take sz) off us := by
 have hl : (((l.take n).drop p).take sz).length = sz := by simp only [List.length_take, List.length_drop]; omega
 apply List.ext_getElem?
 intro k
 rw [qi _ _ _ (by rw [hl]; exact ho)]
 simp only [List.getElem?_take, List.getElem?_drop]
 by_cases c : k < sz
 · rw [if_pos c, if_pos (by omega), qi _ _ _ (by omega)]
   by_cases c1 : k < off
   · rw [if_pos c1, if_pos (by omega), if_pos c, if_pos (by omega)]
   · rw [if_neg c1, if_neg (by omega)]
     by_cases c2 : k < off + us.length
     · rw [if_pos c2, if_pos (by omega)]
       congr 1
       omega
     · rw [if_neg c2, if_neg (by omega), if_pos c, if_pos (by omega)]
 · rw [if_neg c, if_neg (by omega), if_neg (by omega), if_neg c]
theorem zzL {α : Type} (l : List α) (us : List α) (n p q sz : Nat) (h : q + us.length ≤ l.length) (ho : p + sz ≤ q ∨ q + us.length ≤ p) :
 (((jx l q us).take n).drop p).take sz = ((l.take n).drop p).take sz := by
 apply List.ext_getElem?
 intro k
 simp only [List.getElem?_take, List.getElem?_drop]
 by_cases c : k < sz
 · rw [if_pos c, if_pos c]
   by_cases c1 : p + k < n
   · rw [if_pos c1, if_pos c1, qi _ _ _ h]
     by_cases c2 : p + k < q
     · rw [if_pos c2]
     · rw [if_neg c2, if_neg (by omega)]
   · rw [if_neg c1, if_neg c1]
 · rw [if_neg c, if_neg c]
theorem Rel.store (h : Rel P X s mu ka cst a w) {id b off : Nat} {cs bs : List AV} {us : List Value} (hf : Zz id s.mem = some (.box cs)) (hm : mu id = some b) (hl : off + bs.length ≤ cs.length)
 (hv : VAs P (cx P X s.mem mu ka w) bs us) :
 ∃ T vs, w.heap[b]? = some (.cells vs T (0, 0)) ∧ off + us.length ≤ vs.size ∧ Rel P X { s with mem := Yt id (.box (jx cs off bs)) s.mem } mu ka cst a (w.setRow b (jx vs.toList off us).toArray) := by
 rcases h.obs id _ hf with ⟨b', hb', T, vs, hg, hvs⟩ | ⟨q, _⟩
 case inr => rw [hm] at q; cases q
 rw [hm] at hb'; cases hb'
 have hg' : w.heap[b]? = some (.cells vs T (0, 0)) := hg
 have hsz : vs.toList.length = cs.length := hvs.length
 refine ⟨T, vs, hg', by rw [hv.length]; rw [Array.length_toList] at hsz; omega, ?_⟩
 refine (h.upd (ob' := .box (jx cs off bs)) hf (Yl h.bel (h.blk id b hm).1 _) (zg hf fun o q => q) ?_ ?_ (fun _ => trivial) ?_ ?_ ?_).2
 · intro b1 o u hc hs
   by_cases e : b1 = b
   · subst e
     exact absurd (.inr ⟨id, _, hf, hm, trivial⟩) hs
   · rw [Yo _ e]; exact hc
 · simp [rtOf, Jy id _ s.mem hf, hf]
 · intro b1 q
   refine setRow_other _ _ _ _ fun e => ?_
   rcases q with q | q
   · exact q (e ▸ hm)
   · exact q trivial
 · intro q; rw [hm] at q; cases q
 · intro b1 q
   rw [hm] at q; cases q
   have hl2 : (cx P X s.mem mu ka w).Le (cx P X (Yt id (.box (jx cs off bs)) s.mem) mu ka (w.setRow b (jx vs.toList off us).toArray)) := by
    refine ⟨fun b1 o u hc hs => ⟨?_, fun q => hs (zg (ob' := .box (jx cs off bs)) hf (fun o q => q) b1 o q)⟩, fun _ _ q => q, fun i x hx => ⟨?_, rfl, rfl⟩⟩
    · by_cases e : b1 = b
      · subst e
        exact absurd (.inr ⟨id, _, hf, hm, trivial⟩) hs
      · exact (Yo _ e o).trans hc
    · by_cases e : i = id
      · subst e
        have hx' : rtOf s.mem i = some x := hx
        simp [rtOf, hf] at hx'
      · show rtOf _ i = _
        unfold rtOf
        rw [zy id i _ e]
        exact hx
   refine ⟨T, _, setRow_heap w b vs _ T (0, 0) hg', ?_⟩
   exact VAs.le hl2 _ _ (VAs.spl hvs hv off)
theorem Rel.rowAt (h : Rel P X s mu ka cst a w) {id b m t : Nat} {xs : List (List PV)} (hf : Zz id s.mem = some (.row (m + 1) t xs)) (hm : mu id = some b) :
 (∀ e ∈ xs, cfs (jy P t) e) ∧ (jy P t).length = Qx P t ∧ xs.length ≤ ka id ∧ ∃ vs, w.heap[b]? = some (.cells vs t (0, 0)) ∧ ka id ≤ maxLen ∧ vs.size = ka id * (jy P t).length ∧
   VPss P w (Smut P X.S0 s.mem mu) xs (vs.toList.take (xs.length * (jy P t).length)) := by
 rcases h.obs id _ hf with ⟨b', hb', h1, h2, h3, vs, h4, h5, h6, h7⟩ | ⟨q, _⟩
 · rw [hm] at hb'; cases hb'
   exact ⟨h1, h2, h3, vs, h4, h5, h6, h7⟩
 · rw [hm] at q; cases q
theorem Rel.still (h : Rel P X s mu ka cst a w) {id b o : Nat} {ob : Ob} (hf : Zz id s.mem = some ob) (hl : live ob) (hm : mu id = some b) (hn : ¬ yV P ob o) : ¬ Smut P X.S0 s.mem mu b o := by
 rintro (q | ⟨i, oi, h1, h2, h3⟩)
 · have := X.lt b o q
   have := (h.blk id b hm).1
   omega
 · obtain rfl := h.inj i id b oi ob h2 hm h1 hf (ZN h3) hl
   rw [hf] at h1; cases h1
   exact hn h3
theorem Rel.demote (h : Rel P X s mu ka cst a w) {id t : Nat} {xs : List (List PV)} (hf : Zz id s.mem = some (.row 2 t xs)) :
 (cx P X s.mem mu ka w).Le (cx P X (Yt id (.row 1 t xs) s.mem) mu ka w) ∧ Rel P X { s with mem := Yt id (.row 1 t xs) s.mem } mu ka cst a w := by
 have hs : ∀ b o, Smut P X.S0 (Yt id (.row 1 t xs) s.mem) mu b o → Smut P X.S0 s.mem mu b o := zg hf fun o _ => trivial
 refine h.upd hf h.bel hs (fun b o u hc _ => hc) (by simp [rtOf, Jy id _ s.mem hf, hf]) (fun _ => trivial) (fun _ _ => rfl) ?_ ?_
 · intro q
   rcases h.obs id _ hf with ⟨b, hb, _⟩ | ⟨_, m, t', e, h2⟩
   · rw [q] at hb; cases hb
   · cases e; exact ⟨1, t, rfl, h2⟩
 · intro b hb
   obtain ⟨h1, h2, h3, vs, h4, h5, h6, h7⟩ := h.rowAt hf hb
   exact ⟨h1, h2, h3, vs, h4, h5, h6, VPss.keep (fun b o u hc hs' => ⟨hc, fun q => hs' (hs b o q)⟩) _ _ h7⟩
theorem Rel.setEl (h : Rel P X s mu ka cst a w) {id b t i off : Nat} {xs : List (List PV)} {e' : List PV} (hf : Zz id s.mem = some (.row 2 t xs)) (hm : mu id = some b) (hi : i < xs.length) (hc : cfs (jy P t) e')
 {us : List Value} (hoff : off + us.length ≤ (jy P t).length)
 (hv : ∀ vs : List Value, VPs P w (Smut P X.S0 s.mem mu) (xs.getD i []) vs → VPs P w (Smut P X.S0 s.mem mu) e' (jx vs off us)) :
 ∃ vs, w.heap[b]? = some (.cells vs t (0, 0)) ∧ i * (jy P t).length + off + us.length ≤ vs.size ∧
  Rel P X { s with mem := Yt id (.row 2 t (xs.set i e')) s.mem } mu ka cst a (w.setRow b (jx vs.toList (i * (jy P t).length + off) us).toArray) := by
 obtain ⟨h1, h2, h3, vs, h4, h5, h6, h7⟩ := h.rowAt hf hm
 generalize hsz : (jy P t).length = sz at *
 have hle : (i + 1) * sz ≤ xs.length * sz := Nat.mul_le_mul_right _ hi
 have hle2 : xs.length * sz ≤ vs.size := by rw [h6]; exact Nat.mul_le_mul_right _ h3
 rw [Nat.add_mul, Nat.one_mul] at hle
 have hfit : i * sz + off + us.length ≤ vs.size := by omega
 have hvl : vs.toList.length = vs.size := Array.length_toList
 refine ⟨vs, h4, hfit, ?_⟩
 have hK : ∀ b1 o u, w.cell? ⟨b1, o, none⟩ = some u → ¬ Smut P X.S0 s.mem mu b1 o → (w.setRow b (jx vs.toList (i * sz + off) us).toArray).cell? ⟨b1, o, none⟩ = some u := by
  intro b1 o u hc' hs
  by_cases e : b1 = b
  · subst e; exact absurd (.inr ⟨id, _, hf, hm, trivial⟩) hs
  · rw [Yo _ e]; exact hc'
 have hS : ∀ b o, Smut P X.S0 (Yt id (.row 2 t (xs.set i e')) s.mem) mu b o → Smut P X.S0 s.mem mu b o := zg hf fun o _ => trivial
 refine (h.upd (ob' := .row 2 t (xs.set i e')) hf (Yl h.bel (h.blk id b hm).1 _) hS hK (by simp [rtOf, Jy id _ s.mem hf, hf]) (fun _ => trivial) ?_ ?_ ?_).2
 · intro b1 q
   refine setRow_other _ _ _ _ fun e => ?_
   rcases q with q | q
   · exact q (e ▸ hm)
   · exact q trivial
 · intro q; rw [hm] at q; cases q
 · intro b1 q
   rw [hm] at q; cases q
   have hcl : ∀ e ∈ xs.set i e', cfs (jy P t) e := by
    intro e he
    rcases List.mem_or_eq_of_mem_set he with he | rfl
    · exact h1 e he
    · exact hc
   have hlen : ∀ e ∈ xs, e.length = sz := fun e he => (h1 e he).length.trans hsz
   refine ⟨hcl, by rw [hsz]; exact h2, by simpa using h3, _, setRow_heap w b vs _ t (0, 0) h4, h5, ?_, ?_⟩
   · rw [List.size_toArray, Qp _ _ _ (by rw [hvl]; exact hfit), hvl, h6, hsz]
   · refine VPss.keep (fun b1 o u hc' hs => ⟨hK b1 o u hc' hs, fun q => hs (hS b1 o q)⟩) _ _ ?_
     simp only [List.length_set, hsz]
     refine VPss.of_get (n := sz) ?_ (fun e he => (hcl e he).length.trans hsz) ?_
     · rw [List.length_take, Qp _ _ _ (by rw [hvl]; exact hfit), hvl, List.length_set]
       omega
     · intro j e hj
       have hjl : j < xs.length := by
        have := (List.getElem?_eq_some_iff.1 hj).1
        simpa using this
       have hje : (j + 1) * sz ≤ xs.length * sz := Nat.mul_le_mul_right _ hjl
       rw [Nat.add_mul, Nat.one_mul] at hje
       by_cases eij : i = j
       · subst eij
         rw [List.getElem?_set_self hi] at hj
         cases hj
         have h0 := h7.get hlen (i := i) (e := xs[i]) (List.getElem?_eq_getElem hi)
         have h8 := hv _ (by rw [List.getD_eq_getElem?_getD, List.getElem?_eq_getElem hi]; exact h0)
         have e9 : List.take sz (List.drop (i * sz) (List.take (xs.length * sz) (jx vs.toList (i * sz + off) us))) = jx (List.take sz (List.drop (i * sz) (List.take (xs.length * sz) vs.toList))) off us := qyy _ _ _ _ _ _ hle (by omega) hoff
         rw [e9]
         exact h8
       · rw [List.getElem?_set_ne eij] at hj
         have h0 := h7.get hlen hj
         have hap : (j + 1) * sz ≤ i * sz ∨ (i + 1) * sz ≤ j * sz := by
          rcases Nat.lt_or_gt_of_ne eij with q | q
          · exact .inr (Nat.mul_le_mul_right _ q)
          · exact .inl (Nat.mul_le_mul_right _ q)
         rw [Nat.add_mul, Nat.one_mul, Nat.add_mul, Nat.one_mul] at hap
         have e9 : List.take sz (List.drop (j * sz) (List.take (xs.length * sz) (jx vs.toList (i * sz + off) us))) = List.take sz (List.drop (j * sz) (List.take (xs.length * sz) vs.toList)) := zzL _ _ _ _ _ _ (by omega) (by omega)
         rw [e9]
         exact h0
end
section
variable {P : Program} {X : Out} {s : St} {mu : Nat → Option Nat} {ka : Nat → Nat} {cst : List (List Value)} {a : List Value} {w : World}
theorem Rel.newBox (h : Rel P X s mu ka cst a w) {id : Nat} (hf : Zz id s.mem = none) {w1 : World} (hw : w1.heap = w.heap) (hbel : Below X.B X.w0 w1) (T : Nat) {cs : List AV} {vs : List Value} (hv : VAs P (cx P X s.mem mu ka w) cs vs) :
 ∃ mu' ka', mu' id = some w.heap.size ∧ (cx P X s.mem mu ka w).Le (cx P X ((id, .box cs) :: s.mem) mu' ka' (w1.alloc (.cells vs.toArray T))) ∧
  Rel P X { s with mem := (id, .box cs) :: s.mem } mu' ka' cst a (w1.alloc (.cells vs.toArray T)) := by
 have hl := h.new (ob := .box cs) (o := .cells vs.toArray T) hf hw rfl hbel 0
 refine ⟨_, _, by simp, hl, h.alloc hf hw rfl hbel 0 ?_⟩
 refine ⟨T, vs.toArray, ?_, VAs.le hl _ _ (by simpa using hv)⟩
 show (w1.alloc _).heap[w.heap.size]? = _
 rw [← hw]
 exact heap_alloc_new w1 _
theorem Rel.newRow (h : Rel P X s mu ka cst a w) {id : Nat} (hf : Zz id s.mem = none) {w1 : World} (hw : w1.heap = w.heap) (hbel : Below X.B X.w0 w1) {m t k : Nat} {xs : List (List PV)} {cs : Array Value}
 (hc : ∀ e ∈ xs, cfs (jy P t) e) (hs : (jy P t).length = Qx P t) (hk : xs.length ≤ k) (hm : k ≤ maxLen) (hz : cs.size = k * (jy P t).length)
 (hv : VPss P w (Smut P X.S0 s.mem mu) xs (cs.toList.take (xs.length * (jy P t).length))) :
 ∃ mu' ka', mu' id = some w.heap.size ∧ ka' id = k ∧ (∀ i, i ≠ id → mu' i = mu i ∧ ka' i = ka i) ∧ (cx P X s.mem mu ka w).Le (cx P X ((id, .row (m + 1) t xs) :: s.mem) mu' ka' (w1.alloc (.cells cs t))) ∧
  Rel P X { s with mem := (id, .row (m + 1) t xs) :: s.mem } mu' ka' cst a (w1.alloc (.cells cs t)) := by
 have hl := h.new (ob := .row (m + 1) t xs) (o := .cells cs t) hf hw rfl hbel k
 refine ⟨_, _, by simp, by simp, fun i hi => by simp [hi], hl, h.alloc hf hw rfl hbel k ?_⟩
 refine ⟨hc, hs, hk, cs, ?_, hm, hz, VPss.keep hl.keep _ _ hv⟩
 show (w1.alloc _).heap[w.heap.size]? = _
 rw [← hw]
 exact heap_alloc_new w1 _
theorem Rel.newNil (h : Rel P X s mu ka cst a w) {id m t : Nat} (hf : Zz id s.mem = none) (hs : (jy P t).length = Qx P t) :
 mu id = none ∧ (cx P X s.mem mu ka w).Le (cx P X ((id, .row m t []) :: s.mem) mu ka w) ∧ Rel P X { s with mem := (id, .row m t []) :: s.mem } mu ka cst a w := by
 have hmu : mu id = none := by
  cases hm : mu id with
  | none => rfl
  | some b => obtain ⟨_, ob', ho⟩ := h.blk id b hm; rw [hf] at ho; cases ho
 have hne : ∀ {i o}, Zz i s.mem = some o → id ≠ i := fun {i o} q e => by subst e; rw [hf] at q; cases q
 have hl : (cx P X s.mem mu ka w).Le (cx P X ((id, .row m t []) :: s.mem) mu ka w) := by
  refine ⟨fun b o u hc hs => ⟨hc, fun q => hs ?_⟩, fun _ _ q => q, fun i x hx => ⟨?_, rfl, rfl⟩⟩
  · rcases q with q | ⟨i, oi, h1, h2, h3⟩
    · exact .inl q
    · by_cases e : id = i
      · subst e
        have h2' : mu id = some b := h2
        rw [hmu] at h2'; cases h2'
      · rw [Yy, if_neg e] at h1
        exact .inr ⟨i, oi, h1, h2, h3⟩
  · obtain ⟨m', t', xs, hx', rfl⟩ := Yi hx
    show rtOf _ i = _
    simp [rtOf, Yy, hne hx', hx']
 refine ⟨hmu, hl, h.turn hl h.bel ?_ ?_ ?_⟩
 · intro i b hi
   obtain ⟨h1, o, h2⟩ := h.blk i b hi
   exact ⟨h1, o, by rw [Yy, if_neg (hne h2)]; exact h2⟩
 · intro i j b oi oj hi hj fi fj li lj
   have e1 : id ≠ i := fun e => by subst e; rw [hmu] at hi; cases hi
   have e2 : id ≠ j := fun e => by subst e; rw [hmu] at hj; cases hj
   rw [Yy, if_neg e1] at fi
   rw [Yy, if_neg e2] at fj
   exact h.inj i j b oi oj hi hj fi fj li lj
 · intro i o hi
   by_cases e : id = i
   · subst e
     rw [Yy, if_pos rfl] at hi
     cases hi
     exact .inr ⟨hmu, m, t, rfl, hs⟩
   · rw [Yy, if_neg e] at hi
     rcases h.obs i o hi with ⟨b, hb, ho⟩ | q
     · exact .inl ⟨b, hb, ho.le hl fun _ => rfl⟩
     · exact .inr q
theorem Rel.retire (h : Rel P X s mu ka cst a w) {id m t : Nat} {xs : List (List PV)} (hf : Zz id s.mem = some (.row (m + 1) t xs)) :
 (cx P X s.mem mu ka w).Le (cx P X (Yt id (.row 0 t xs) s.mem) mu ka w) ∧ Rel P X { s with mem := Yt id (.row 0 t xs) s.mem } mu ka cst a w := by
 have hs : ∀ b o, Smut P X.S0 (Yt id (.row 0 t xs) s.mem) mu b o → Smut P X.S0 s.mem mu b o := zg hf fun o q => q.elim
 refine h.upd hf h.bel hs (fun b o u hc _ => hc) (by simp [rtOf, Jy id _ s.mem hf, hf]) (fun q => q.elim) (fun _ _ => rfl) ?_ ?_
 · intro q
   rcases h.obs id _ hf with ⟨b, hb, _⟩ | ⟨_, m, t', e, h2⟩
   · rw [q] at hb; cases hb
   · cases e; exact ⟨0, t, rfl, h2⟩
 · intro b hb
   obtain ⟨h1, h2, h3, vs, h4, h5, h6, h7⟩ := h.rowAt hf hb
   refine ⟨h1, h2, h3, vs.toList.take (xs.length * (jy P t).length), .inr ⟨b, 0, rfl, fun j u hu => ?_, fun j hj => ?_⟩, VPss.keep (fun b o u hc hs' => ⟨hc, fun q => hs' (hs b o q)⟩) _ _ h7⟩
   · show w.cell? _ = _
     rw [cell_of_row w b (0 + j) vs t (0, 0) h4, Nat.zero_add]
     rw [List.getElem?_take] at hu
     split at hu
     · simpa using hu
     · cases hu
   · rintro (q | ⟨i, oi, g1, g2, g3⟩)
     · have := X.lt b _ q
       have := (h.blk id b hb).1
       omega
     · by_cases e : i = id
       · subst e
         rw [Jy i _ s.mem hf] at g1
         cases g1
         exact g3
       · rw [zy id i _ e] at g1
         exact e (h.inj i id b oi _ g2 hb g1 hf (ZN g3) trivial)
theorem zyb {m t : Nat} {xs ys : List (List PV)} {o : Nat} (m' : Nat) (hm : m' = 1 ∨ xs = []) (h : yV P (.row m' t (xs ++ ys)) o) : yV P (.row (m + 1) t xs) o := by
 cases m with
 | succ m => trivial
 | zero =>
   show xs.length * _ ≤ o
   rcases hm with rfl | rfl
   · have h' : (xs ++ ys).length * (jy P t).length ≤ o := h
     rw [List.length_append, Nat.add_mul] at h'
     omega
   · simp
theorem Rel.appendIn (h : Rel P X s mu ka cst a w) {id j m t m' b : Nat} {xs ys : List (List PV)} {us : List Value} (hf : Zz j s.mem = some (.row (m + 1) t xs)) (hm : mu j = some b) (hn : Zz id s.mem = none)
 (hm' : m' + 1 = 1 ∨ xs = []) (hc : ∀ e ∈ ys, cfs (jy P t) e) (hv : VPss P w (Smut P X.S0 s.mem mu) ys us) (hroom : xs.length + ys.length ≤ ka j) :
 ∃ vs, w.heap[b]? = some (.cells vs t (0, 0)) ∧ xs.length * (jy P t).length + us.length ≤ vs.size ∧ ∃ mu' ka', mu' id = some b ∧ ka' id = ka j ∧
  (cx P X s.mem mu ka w).Le (cx P X ((id, .row (m' + 1) t (xs ++ ys)) :: Yt j (.row 0 t xs) s.mem) mu' ka' (w.setRow b (jx vs.toList (xs.length * (jy P t).length) us).toArray)) ∧
  Rel P X { s with mem := (id, .row (m' + 1) t (xs ++ ys)) :: Yt j (.row 0 t xs) s.mem } mu' ka' cst a (w.setRow b (jx vs.toList (xs.length * (jy P t).length) us).toArray) := by
 obtain ⟨h1, h2, h3, vs, h4, h5, h6, h7⟩ := h.rowAt hf hm
 generalize hsz : (jy P t).length = sz at *
 have hvl : vs.toList.length = vs.size := Array.length_toList
 have hul : us.length = ys.length * sz := hv.length fun e he => (hc e he).length.trans hsz
 have hle : (xs.length + ys.length) * sz ≤ vs.size := by rw [h6]; exact Nat.mul_le_mul_right _ hroom
 rw [Nat.add_mul, ← hul] at hle
 refine ⟨vs, h4, hle, fun i => if i = id then some b else mu i, fun i => if i = id then ka j else ka i, by simp, by simp, ?_⟩
 have hmu : mu id = none := by
  cases hmm : mu id with
  | none => rfl
  | some b => obtain ⟨_, ob', ho⟩ := h.blk id b hmm; rw [hn] at ho; cases ho
 have hne : ∀ {i o}, Zz i s.mem = some o → id ≠ i := fun {i o} q e => by subst e; rw [hn] at q; cases q
 have hjid := hne hf
 have find2 : ∀ {i o}, Zz i ((id, .row (m' + 1) t (xs ++ ys)) :: Yt j (.row 0 t xs) s.mem) = some o → (i = id ∧ o = .row (m' + 1) t (xs ++ ys)) ∨ (i ≠ id ∧ i = j ∧ o = .row 0 t xs) ∨ (i ≠ id ∧ i ≠ j ∧ Zz i s.mem = some o) := by
  intro i o q
  rw [Yy] at q
  by_cases e : id = i
  · rw [if_pos e] at q; cases q; exact .inl ⟨e.symm, rfl⟩
  · rw [if_neg e] at q
    by_cases e' : i = j
    · subst e'
      rw [Jy i _ s.mem hf] at q; cases q
      exact .inr (.inl ⟨fun x => e x.symm, rfl, rfl⟩)
    · rw [zy j i _ e'] at q
      exact .inr (.inr ⟨fun x => e x.symm, e', q⟩)
 have hS : ∀ b1 o, Smut P X.S0 ((id, .row (m' + 1) t (xs ++ ys)) :: Yt j (.row 0 t xs) s.mem) (fun i => if i = id then some b else mu i) b1 o → Smut P X.S0 s.mem mu b1 o := by
  rintro b1 o (q | ⟨i, oi, g1, g2, g3⟩)
  · exact .inl q
  · rcases find2 g1 with ⟨rfl, rfl⟩ | ⟨e, rfl, rfl⟩ | ⟨e, e', g1⟩
    · simp only [if_true] at g2
      cases g2
      exact .inr ⟨j, _, hf, hm, zyb (m' + 1) hm' g3⟩
    · exact g3.elim
    · simp only [if_neg e] at g2
      exact .inr ⟨i, oi, g1, g2, g3⟩
 have hl : (cx P X s.mem mu ka w).Le (cx P X ((id, .row (m' + 1) t (xs ++ ys)) :: Yt j (.row 0 t xs) s.mem) (fun i => if i = id then some b else mu i) (fun i => if i = id then ka j else ka i) (w.setRow b (jx vs.toList (xs.length * sz) us).toArray)) := by
  refine ⟨fun b1 o u hc' hs => ⟨?_, fun q => hs (hS b1 o q)⟩, fun i b1 q => ?_, fun i x hx => ?_⟩
  · by_cases e : b1 = b
    · subst e
      have hnm : ¬ yV P (.row (m + 1) t xs) o := fun q => hs (.inr ⟨j, _, hf, hm, q⟩)
      have hm0 : m = 0 := by
       cases m with
       | zero => rfl
       | succ m => exact absurd trivial hnm
      subst hm0
      have ho : o < xs.length * sz := by
       rcases Nat.lt_or_ge o (xs.length * sz) with q | q
       · exact q
       · exact absurd (show xs.length * (jy P t).length ≤ o by rw [hsz]; exact q) hnm
      have hc'' : w.cell? ⟨b1, o, none⟩ = some u := hc'
      rw [cell_of_row w b1 o vs t (0, 0) h4] at hc''
      show (w.setRow b1 _).cell? _ = _
      rw [qL h4, List.getElem?_toArray, qi _ _ _ (by omega), if_pos ho]
      simpa using hc''
    · exact (Yo _ e o).trans hc'
  · show (if i = id then some b else mu i) = some b1
    have q' : mu i = some b1 := q
    rw [if_neg (fun e => by subst e; rw [hmu] at q'; cases q')]
    exact q'
  · obtain ⟨mm, tt, zs, hx', rfl⟩ := Yi hx
    have e := hne hx'
    refine ⟨?_, by show (if i = id then _ else mu i) = mu i; rw [if_neg (Ne.symm e)], by show (if i = id then _ else ka i) = ka i; rw [if_neg (Ne.symm e)]⟩
    show rtOf _ i = _
    unfold rtOf
    rw [Yy, if_neg e]
    by_cases e' : i = j
    · subst e'
      rw [Jy i _ s.mem hf]
      rw [hf] at hx'; cases hx'; rfl
    · rw [zy j i _ e', hx']
 refine ⟨hl, h.turn hl (Yl h.bel (h.blk j b hm).1 _) ?_ ?_ ?_⟩
 · intro i b1 hi
   by_cases e : i = id
   · subst e
     simp only [if_true] at hi; cases hi
     exact ⟨(h.blk j b hm).1, _, by rw [Yy, if_pos rfl]⟩
   · simp only [if_neg e] at hi
     obtain ⟨g1, o, g2⟩ := h.blk i b1 hi
     refine ⟨g1, ?_⟩
     rw [Yy, if_neg (Ne.symm e)]
     by_cases e' : i = j
     · subst e'; exact ⟨_, Jy i _ s.mem hf⟩
     · exact ⟨o, by rw [zy j i _ e']; exact g2⟩
 · intro i i' b1 oi oi' hi hi' fi fi' li li'
   rcases find2 fi with ⟨rfl, rfl⟩ | ⟨e, rfl, rfl⟩ | ⟨e, e', gi⟩
   · rcases find2 fi' with ⟨rfl, rfl⟩ | ⟨f, rfl, rfl⟩ | ⟨f, f', gi'⟩
     · rfl
     · exact li'.elim
     · simp only [if_true, if_neg f] at hi hi'
       cases hi
       exact absurd (h.inj i' j b oi' _ hi' hm gi' hf li' trivial) f'
   · exact li.elim
   · rcases find2 fi' with ⟨rfl, rfl⟩ | ⟨f, rfl, rfl⟩ | ⟨f, f', gi'⟩
     · simp only [if_true, if_neg e] at hi hi'
       cases hi'
       exact absurd (h.inj i j b oi _ hi hm gi hf li trivial) e'
     · exact li'.elim
     · simp only [if_neg e, if_neg f] at hi hi'
       exact h.inj i i' b1 oi oi' hi hi' gi gi' li li'
 · intro i o hi
   rcases find2 hi with ⟨rfl, rfl⟩ | ⟨e, rfl, rfl⟩ | ⟨e, e', fi⟩
   · refine .inl ⟨b, by simp, ?_, by rw [hsz]; exact h2, by simpa using hroom, _, setRow_heap w b vs _ t (0, 0) h4, by simpa using h5, ?_, ?_⟩
     · intro e he
       rcases List.mem_append.1 he with he | he
       · exact h1 e he
       · exact hc e he
     · rw [List.size_toArray, Qp _ _ _ (by omega), hvl, hsz]
       simpa using h6
     · refine VPss.keep hl.keep _ _ ?_
       rw [hsz, List.length_append, Nat.add_mul, ← hul]
       have e9 : List.take (xs.length * sz + us.length) (jx vs.toList (xs.length * sz) us) = vs.toList.take (xs.length * sz) ++ us := by
        unfold jx
        rw [List.take_append_of_le_length (by simp; omega)]
        rw [List.take_of_length_le (by simp; omega)]
       rw [e9]
       exact h7.append hv
   · refine .inl ⟨b, by simp [e, hm], h1, by rw [hsz]; exact h2, by simpa [e] using h3, vs.toList.take (xs.length * sz), .inr ⟨b, 0, rfl, fun k u hu => ?_, fun k hk => ?_⟩, VPss.keep hl.keep _ _ h7⟩
     · show (w.setRow b _).cell? _ = _
       rw [List.getElem?_take] at hu
       split at hu
       · rename_i hk
         rw [qL h4, List.getElem?_toArray, Nat.zero_add, qi _ _ _ (by omega), if_pos hk]
         exact hu
       · cases hu
     · rintro (q | ⟨i', oi, g1, g2, g3⟩)
       · have := X.lt b _ q
         have := (h.blk i b hm).1
         omega
       · rcases find2 g1 with ⟨rfl, rfl⟩ | ⟨f, rfl, rfl⟩ | ⟨f, f', g1⟩
         · rcases hm' with hm' | hm'
           · have : m' = 0 := by omega
             subst this
             have g3' : (xs ++ ys).length * (jy P t).length ≤ 0 + k := g3
             rw [hsz, List.length_append, Nat.add_mul] at g3'
             simp only [List.length_take] at hk
             omega
           · subst hm'
             simp at hk
         · exact g3
         · simp only [if_neg f] at g2
           exact f' (h.inj i' i b oi _ g2 hm g1 hf (ZN g3) trivial)
   · simp only [if_neg e]
     rcases h.obs i o fi with ⟨b1, hb1, ho⟩ | q
     · refine .inl ⟨b1, hb1, ho.le hl fun hlo => setRow_other _ _ _ _ fun q => ?_⟩
       subst q
       exact e' (h.inj i j b1 o _ hb1 hm fi hf hlo trivial)
     · exact .inr q
end
def Rd.val {α : Type} (v : View) : Rd α → Option α
 | .ret a => some a
 | .tmp t k => (k (v.tmp t)).val v
 | .rng id off n k => (k (v.rng id off n)).val v
 | .row id k => (k (v.row id)).val v
 | .fresh id k => (k (v.fresh id)).val v
 | .chn id k => (k (v.chn id)).val v
 | .test b x y => bif b then x.val v else y.val v
 | .fail => none
theorem Rd.val_run {α : Type} (v : View) : ∀ (x : Rd α) (ks : List Key), ((x.run v ks).run).map (·.1) = x.val v
 | .ret a, ks => rfl
 | .tmp t k, ks => Rd.val_run v (k (v.tmp t)) _
 | .rng id off n k, ks => Rd.val_run v (k (v.rng id off n)) _
 | .row id k, ks => Rd.val_run v (k (v.row id)) _
 | .fresh id k, ks => Rd.val_run v (k (v.fresh id)) _
 | .chn id k, ks => Rd.val_run v (k (v.chn id)) _
 | .test b x y, ks => by
   have h1 := Rd.val_run v x ks
   have h2 := Rd.val_run v y ks
   cases b
   · exact h2
   · exact h1
 | .fail, ks => rfl
theorem Rd.val_of_run {α : Type} {v : View} {x : Rd α} {ks : List Key} {r : α × List Key} (h : (x.run v ks).run = some r) : x.val v = some r.1 := by
 rw [← Rd.val_run v x ks, h]; rfl
theorem Rd.val_bind {α β : Type} (v : View) (f : α → Rd β) : ∀ (x : Rd α), (x.bind f).val v = (x.val v).bind fun a => (f a).val v
 | .ret a => rfl
 | .tmp t k => Rd.val_bind v f (k (v.tmp t))
 | .rng id off n k => Rd.val_bind v f (k (v.rng id off n))
 | .row id k => Rd.val_bind v f (k (v.row id))
 | .fresh id k => Rd.val_bind v f (k (v.fresh id))
 | .chn id k => Rd.val_bind v f (k (v.chn id))
 | .test b x y => by
   have h1 := Rd.val_bind v f x
   have h2 := Rd.val_bind v f y
   cases b
   · exact h2
   · exact h1
 | .fail => rfl
theorem Tr.run_bind {α β : Type} (f : α → Tr β) : ∀ (x : Tr α), (x.bind f).run = x.run.bind fun a => (f a).run
 | .ret a => rfl
 | .test b x y => by
   have h1 := Tr.run_bind f x
   have h2 := Tr.run_bind f y
   cases b
   · exact h2
   · exact h1
 | .wait n c s x k => by
   show (x.bind fun r => ((k r).bind f).run) = (x.bind fun r => (k r).run).bind fun a => (f a).run
   cases x with
   | none => rfl
   | some r => exact Tr.run_bind f (k r)
 | .fail => rfl
theorem val_bind {α β : Type} {v : View} {x : Rd α} {f : α → Rd β} {b : β} (h : (x.bind f).val v = some b) : ∃ a, x.val v = some a ∧ (f a).val v = some b := by
 rw [Rd.val_bind] at h
 exact Option.bind_eq_some_iff.1 h
theorem Qy {α : Type} {v : View} {c : Bool} {k : Rd α} {a : α} (h : (Yv c k).val v = some a) : c = true ∧ k.val v = some a := by
 cases c
 · simp [Yv, Rd.val] at h
 · exact ⟨rfl, h⟩
theorem Zo {α : Type} {v : View} {c : Bool} {k : Rd α} {a : α} (h : (chk c k).val v = some a) : c = true ∧ k.val v = some a := by
 cases c
 · simp [chk, Rd.val] at h
 · exact ⟨rfl, h⟩
theorem Zx {v : View} {x : AV} {p : AV × List Eff} (h : (okV x).val v = some p) : p = (x, []) := by
 simp only [okV, Rd.val, Option.some.injEq] at h
 exact h.symm
theorem yD {s : ByteArray} (h : s.size = 0) : s = ByteArray.empty := by
 cases s with
 | mk d =>
   have : d = #[] := Array.eq_empty_of_size_eq_zero h
   subst this; rfl
section
variable {P : Program} {X : Out} {s : St} {mu : Nat → Option Nat} {ka : Nat → Nat} {cst : List (List Value)} {act : Act} {w : World}
theorem yzL (c : Cx) : ∀ (v : Value), VA P c (jo v) v
 | .bool b => by simp [jo, VA, VP]
 | .int k n => by simp [jo, VA, VP]
 | .string s => by simp [jo, VA, VP]
 | .float k b => by simp [jo, VA, VP]
 | .complex k a b => by simp [jo, VA, VP]
 | .pointer none => by simp [jo, VA, VP]
 | .pointer (some a) => by simp [jo, VA, VP]
 | .slice none 0 0 => by simp only [jo, VA]; exact ⟨none, [], rfl, by simp, .inl rfl, by simp [VPss]⟩
 | .slice none 0 (n + 1) => by simp [jo, VA, VP]
 | .slice none (n + 1) c => by simp [jo, VA, VP]
 | .slice (some a) n c => by simp [jo, VA, VP]
 | .map r => by simp [jo, VA, VP]
 | .chan r => by simp [jo, VA, VP]
 | .func f a b => by simp [jo, VA, VP]
 | .nilFunc => by simp [jo, VA, VP]
 | .iface t v => by simp [jo, VA, VP]
 | .nilIface => by simp [jo, VA, VP]
 | .agg cs => by simp [jo, VA, VP]
 | .tuple vs => by simp [jo, VA, VP]
theorem Jzx (c : Cx) : ∀ (vs : List Value), VAs P c (vs.map jo) vs
 | [] => by simp [VAs]
 | v :: vs => by simp only [List.map_cons, VAs]; exact ⟨v, vs, rfl, yzL c v, Jzx c vs⟩
theorem Jyk (c : Cx) (v : Value) : VA P c (Zzo v) v := by
 cases v
 case agg cs =>
  simp only [Zzo, VA]
  exact ⟨cs.toList, by simp, Jzx c _⟩
 case tuple vs =>
  cases vs with
  | mk l =>
    cases l with
    | nil =>
      simp only [Zzo, VA]
      exact ⟨[], rfl, by simp [VAs]⟩
    | cons x l => simp [Zzo, VA, VP]
 all_goals (simp only [Zzo]; exact yzL c _)
theorem Y5 (act : Act) (t : Nat) : act.eval (.tmp t) = act.tmps.getD t undef := rfl
theorem Rel.tmp (h : Rel P X s mu ka cst act.tmps.toList w) (t : Nat) : VA P (cx P X s.mem mu ka w) (s.tmps.getD t (.pv .undef)) (act.eval (.tmp t)) := by
 rcases Nat.lt_or_ge t s.tmps.length with ht | ht
 · obtain ⟨v, hv, hr⟩ := h.tms.get (i := t) (a := s.tmps[t]) (List.getElem?_eq_getElem ht)
   rw [List.getD_eq_getElem?_getD, List.getElem?_eq_getElem ht]
   have : act.eval (.tmp t) = v := by
    simp only [Y5, Array.getD_eq_getD_getElem?]
    rw [← Array.getElem?_toList, hv]; rfl
   rw [this]
   exact hr
 · rw [List.getD_eq_getElem?_getD, List.getElem?_eq_none ht]
   simp [VA, VP]
theorem Rel.op (h : Rel P X s mu ka cst act.tmps.toList w) {x : Operand} {v : AV} (hx : (rdO x).val s.view = some v) : VA P (cx P X s.mem mu ka w) v (act.eval x) := by
 cases x with
 | tmp t =>
   simp only [rdO, Rd.val, Option.some.injEq] at hx
   subst hx
   exact h.tmp t
 | const c =>
   simp only [rdO, Rd.val, Option.some.injEq] at hx
   subst hx
   exact Jyk _ c
 | global g => simp [rdO, Rd.val] at hx
 | func f =>
   simp only [rdO, Rd.val, Option.some.injEq] at hx
   subst hx
   simp only [VA]
   exact ⟨[], [], rfl, by simp [VAs], by simp [VAs]⟩
theorem Rel.opsL (h : Rel P X s mu ka cst act.tmps.toList w) : ∀ {xs : List Operand} {vs : List AV}, (rdOs xs).val s.view = some vs → VAs P (cx P X s.mem mu ka w) vs (xs.map act.eval)
 | [], vs, hx => by
   simp only [rdOs, Rd.val, Option.some.injEq] at hx
   subst hx
   simp [VAs]
 | x :: xs, vs, hx => by
   simp only [rdOs] at hx
   obtain ⟨v, h1, h2⟩ := val_bind hx
   obtain ⟨r, h3, h4⟩ := val_bind h2
   simp only [Rd.val, Option.some.injEq] at h4
   subst h4
   simp only [VAs, List.map_cons]
   exact ⟨_, _, rfl, h.op h1, h.opsL h3⟩
theorem Rel.parts (h : Rel P X s mu ka cst act.tmps.toList w) : ∀ {xs : List (Nat × Operand)} {vs : List (Nat × AV)}, (ZT xs).val s.view = some vs →
 vs.map (·.1) = xs.map (·.1) ∧ VAs P (cx P X s.mem mu ka w) (vs.map (·.2)) (xs.map fun x => act.eval x.2)
 | [], vs, hx => by
   simp only [ZT, Rd.val, Option.some.injEq] at hx
   subst hx
   simp [VAs]
 | (i, x) :: xs, vs, hx => by
   simp only [ZT] at hx
   obtain ⟨v, h1, h2⟩ := val_bind hx
   obtain ⟨r, h3, h4⟩ := val_bind h2
   simp only [Rd.val, Option.some.injEq] at h4
   subst h4
   obtain ⟨h5, h6⟩ := h.parts h3
   refine ⟨by simp [h5], ?_⟩
   simp only [VAs, List.map_cons]
   exact ⟨_, _, rfl, h.op h1, h6⟩
theorem Jt (act : Act) (dst : Option Nat) (u : Value) : (act.put dst u).tmps.toList = (match dst with | some d => act.tmps.toList.set d u | none => act.tmps.toList) := by
 cases dst <;> simp [Act.put]
def Next (P : Program) (X : Out) (s' : St) (cst : List (List Value)) (act : Act) (K : Act → World → Prop) : Prop :=
 ∀ mu' ka' act' w', Rel P X s' mu' ka' cst act'.tmps.toList w' → act'.defers = act.defers → K act' w'
theorem Qo {o : Oper} {K : Act → World → Prop} {Q : Exit → Act → World → Prop} {v : AV} {u : Value} {mem' : List (Nat × Ob)} {mu' : Nat → Option Nat} {ka' : Nat → Nat} {w' : World}
 (hr : (execOp act.eval o).run P w = .ok (.value u) w') (h : Rel P X { s with mem := mem' } mu' ka' cst act.tmps.toList w') (hv : VA P (cx P X mem' mu' ka' w') v u)
 (hK : Next P X ({ s with mem := mem' }.put o.dst v) cst act K) : o.wp P act w K Q := by
 unfold Oper.wp
 rw [hr]
 refine hK mu' ka' (act.put o.dst u) w' ?_ (by cases o.dst <;> rfl)
 rw [Jt]
 exact h.put o.dst hv
theorem jL {o : Oper} {K : Act → World → Prop} {Q : Exit → Act → World → Prop} {mem' : List (Nat × Ob)} {mu' : Nat → Option Nat} {ka' : Nat → Nat} {w' : World}
 (hr : (execOp act.eval o).run P w = .ok .skip w') (h : Rel P X { s with mem := mem' } mu' ka' cst act.tmps.toList w')
 (hK : Next P X ({ s with mem := mem' }.put o.dst (.tup [])) cst act K) : o.wp P act w K Q := by
 unfold Oper.wp
 rw [hr]
 refine hK mu' ka' (act.put o.dst undef) w' ?_ (by cases o.dst <;> rfl)
 rw [Jt]
 refine h.put o.dst ?_
 simp only [VA]
 exact ⟨[], rfl, by simp [VAs]⟩
theorem yx {o : Oper} {K : Act → World → Prop} {Q : Exit → Act → World → Prop} {v : AV} {u : Value} (h : Rel P X s mu ka cst act.tmps.toList w)
 (hr : (execOp act.eval o).run P w = .ok (.value u) w) (hv : VA P (cx P X s.mem mu ka w) v u) (hK : Next P X (s.app o.dst (v, [])) cst act K) : o.wp P act w K Q :=
 Qo (mem' := s.mem) hr h hv (by
  cases hd : o.dst <;> simp only [hd, St.app, St.put, List.foldl_nil] at hK ⊢ <;> exact hK)
end
theorem zB (id : Nat) (o : Ob) : ∀ (m : List (Nat × Ob)), Zz id m = some o → Yt id o m = m
 | [], h => rfl
 | (j, q) :: m, h => by
   by_cases e : j = id
   · simp only [Zz, if_pos e, Option.some.injEq] at h
     simp [Yt, e, h]
   · simp only [Zz, if_neg e] at h
     simp [Yt, e, zB id o m h]
def Dem (m0 m : List (Nat × Ob)) : Prop := ∀ id, Zz id m = Zz id m0 ∨ ∃ t xs, Zz id m0 = some (.row 2 t xs) ∧ Zz id m = some (.row 1 t xs)
theorem Dem.refl (m : List (Nat × Ob)) : Dem m m := fun _ => .inl rfl
def Qs (m : List (Nat × Ob)) (es : List Eff) : List (Nat × Ob) := es.foldl Eff.on m
theorem jp (m : List (Nat × Ob)) (a b : List Eff) : Qs m (a ++ b) = Qs (Qs m a) b := List.foldl_append ..
section
variable {P : Program} {X : Out} {s : St} {mu : Nat → Option Nat} {ka : Nat → Nat} {cst : List (List Value)} {a : List Value} {w : World}
theorem Jo {m : List (Nat × Ob)} {p : PV} {u : Value} (h : VA P (cx P X m mu ka w) (.pv p) u) : VP P w (Smut P X.S0 m mu) p u := by
 simp only [VA] at h
 exact h
theorem Rel.ownList (h : Rel P X s mu ka cst a w) {id m t : Nat} {xs : List (List PV)} {u : Value} (hf : Zz id s.mem = some (.row m t xs)) (hm : m ≤ 1) (hv : VA P (cx P X s.mem mu ka w) (.own id) u) :
 VP P w (Smut P X.S0 s.mem mu) (.list t xs) u := by
 simp only [VA] at hv
 obtain ⟨t', n, hrt, hv⟩ := hv
 have hrt' : rtOf s.mem id = some (t', n) := hrt
 rw [Jn hf] at hrt'
 cases hrt'
 rcases hv with ⟨b, hb, rfl⟩ | ⟨hb, hn, A, rfl⟩
 · simp only [VP]
   rcases Nat.lt_or_ge m 1 with hm0 | hm1
   · have : m = 0 := by omega
     subst this
     rcases h.obs id _ hf with ⟨b', hb', h1, h2, h3, us, h4, h5⟩ | ⟨q, _⟩
     · have hb2 : mu id = some b := hb
       rw [hb2] at hb'; cases hb'
       exact ⟨some ⟨b, 0, none⟩, ka id, us, rfl, h3, h1, h4, h5⟩
     · have hb2 : mu id = some b := hb
       rw [hb2] at q; cases q
   · have : m = 0 + 1 := by omega
     subst this
     obtain ⟨h1, h2, h3, vs, h4, h5, h6, h7⟩ := h.rowAt hf hb
     refine ⟨some ⟨b, 0, none⟩, ka id, _, rfl, h3, h1, .inr ⟨b, 0, rfl, fun j u hu => ?_, fun j hj => ?_⟩, h7⟩
     · rw [cell_of_row w b (0 + j) vs t (0, 0) h4, Nat.zero_add]
       rw [List.getElem?_take] at hu
       split at hu
       · simpa using hu
       · cases hu
     · refine h.still hf trivial hb fun q => ?_
       have q' : xs.length * (jy P t).length ≤ 0 + j := q
       simp only [List.length_take] at hj
       omega
 · obtain rfl := List.length_eq_zero_iff.1 hn
   simp only [VP]
   exact ⟨A, 0, [], rfl, Nat.le_refl _, by simp, .inl rfl, by simp [VPss]⟩
structure Purged (P : Program) (X : Out) (s : St) (m0 mem' : List (Nat × Ob)) (mu : Nat → Option Nat) (ka : Nat → Nat) (cst : List (List Value)) (a : List Value) (w : World) : Prop where
 le : (cx P X s.mem mu ka w).Le (cx P X mem' mu ka w)
 rel : Rel P X { s with mem := mem' } mu ka cst a w
 dem : Dem m0 mem'
theorem Purged.refl (h : Rel P X s mu ka cst a w) {m0 : List (Nat × Ob)} (hd : Dem m0 s.mem) : Purged P X s m0 s.mem mu ka cst a w := ⟨Cx.Le.refl _, h, hd⟩
theorem yB (h : Rel P X s mu ka cst a w) {v0 : View} {m0 : List (Nat × Ob)} (hv0 : v0.find = fun id => Zz id m0) (hd : Dem m0 s.mem) {k : K} {v : AV} {u : Value} {p : PV × List Eff} (hp : (pur1 k v).val v0 = some p)
 (hv : VA P (cx P X s.mem mu ka w) v u) : Purged P X s m0 (Qs s.mem p.2) mu ka cst a w ∧ VP P w (Smut P X.S0 (Qs s.mem p.2) mu) p.1 u ∧ cf k p.1 := by
 have same : ∀ {q : PV}, p = (q, []) → VP P w (Smut P X.S0 s.mem mu) q u → cf k q → Purged P X s m0 (Qs s.mem p.2) mu ka cst a w ∧ VP P w (Smut P X.S0 (Qs s.mem p.2) mu) p.1 u ∧ cf k p.1 := by
  rintro q rfl h1 h2
  exact ⟨Purged.refl h hd, h1, h2⟩
 unfold pur1 at hp
 split at hp
 · obtain ⟨hk, hp⟩ := Qy hp
   simp only [Rd.val, Option.some.injEq] at hp
   obtain rfl := of_decide_eq_true hk
   exact same hp.symm (Jo hv) ⟨_, rfl⟩
 · simp only [Rd.val, Option.some.injEq] at hp
   exact same hp.symm (Jo hv) ⟨_, rfl⟩
 · simp only [Rd.val, Option.some.injEq] at hp
   exact same hp.symm (Jo hv) ⟨_, rfl⟩
 · obtain ⟨hk, hp⟩ := Qy hp
   simp only [Rd.val, Option.some.injEq] at hp
   obtain rfl := eq_of_beq hk
   exact same hp.symm (Jo hv) ⟨_, rfl⟩
 · rename_i t u' xs
   simp only [VA] at hv
   obtain ⟨A, us, rfl, h1, h2, h3⟩ := hv
   split at hp
   · rename_i hk
     simp only [Rd.val, Option.some.injEq] at hp
     obtain rfl := eq_of_beq hk
     refine same hp.symm ?_ ⟨_, rfl⟩
     simp only [VP]
     exact ⟨A, xs.length, us, rfl, Nat.le_refl _, h1, h2, h3⟩
   · split at hp
     · simp only [Rd.val, Option.some.injEq] at hp
       refine same hp.symm ?_ ⟨_, rfl⟩
       simp only [VP]
       exact ⟨A, 0, [], rfl, Nat.le_refl _, by simp, .inl rfl, by simp [VPss]⟩
     · simp [Rd.val] at hp
 · rename_i t id
   simp only [Rd.val, View.row, hv0] at hp
   cases hfi : Zz id m0 with
   | none => rw [hfi] at hp; simp [Rd.val] at hp
   | some ob =>
     cases ob with
     | box cs => rw [hfi] at hp; simp [Rd.val] at hp
     | chan q => rw [hfi] at hp; simp [Rd.val] at hp
     | row m u' xs =>
       rw [hfi] at hp
       simp only at hp
       obtain ⟨hk, hp⟩ := Qy hp
       obtain rfl := eq_of_beq hk
       have low : ∀ m, m ≤ 1 → Zz id m0 = some (.row m u' xs) → Zz id s.mem = some (.row m u' xs) := fun m hm q => by
        rcases hd id with e | ⟨t', xs', e1, e2⟩
        · rw [e]; exact q
        · rw [q] at e1; cases e1; omega
       split at hp
       · simp only [Rd.val, Option.some.injEq] at hp
         exact same hp.symm (h.ownList (low 0 (by omega) hfi) (by omega) hv) ⟨_, rfl⟩
       · simp only [Rd.val, Option.some.injEq] at hp
         exact same hp.symm (h.ownList (low 1 (by omega) hfi) (by omega) hv) ⟨_, rfl⟩
       · simp only [Rd.val, Option.some.injEq] at hp
         subst hp
         rcases hd id with e | ⟨t', xs', e1, e2⟩
         · have hf2 : Zz id s.mem = some (.row 2 u' xs) := e.trans hfi
           obtain ⟨hl, hr⟩ := h.demote hf2
           have hf1 := Jy id (.row 1 u' xs) s.mem hf2
           refine ⟨⟨hl, hr, fun i => ?_⟩, hr.ownList hf1 (by omega) (VA.le hl _ _ hv), ⟨_, rfl⟩⟩
           by_cases ei : i = id
           · subst ei
             exact .inr ⟨u', xs, hfi, hf1⟩
           · have e5 : Zz i (Qs s.mem [.rset id 1 u' xs]) = Zz i s.mem := zy id i _ ei s.mem
             show Zz i (Qs s.mem [.rset id 1 u' xs]) = _ ∨ ∃ t xs2, _ ∧ Zz i (Qs s.mem [.rset id 1 u' xs]) = _
             rw [e5]
             exact hd i
         · rw [hfi] at e1; cases e1
           have e3 : Qs s.mem [.rset id 1 u' xs] = s.mem := zB id _ _ e2
           rw [e3]
           exact ⟨Purged.refl h hd, h.ownList e2 (by omega) hv, ⟨_, rfl⟩⟩
       · simp [Rd.val] at hp
 · simp only [Rd.val, Option.some.injEq] at hp
   exact same hp.symm (Jo hv) (.inl ⟨_, rfl⟩)
 · simp only [Rd.val, Option.some.injEq] at hp
   exact same hp.symm (Jo hv) (.inr rfl)
 · simp only [Rd.val, Option.some.injEq] at hp
   refine same hp.symm ?_ (.inl ⟨_, rfl⟩)
   simp only [VA] at hv
   obtain ⟨as, bs, rfl, h1, h2⟩ := hv
   simp only [VAs] at h1 h2
   subst h1; subst h2
   simp [VP]
 · simp [Rd.val] at hp
theorem qY {v0 : View} {m0 : List (Nat × Ob)} (hv0 : v0.find = fun id => Zz id m0) : ∀ {ks : List K} {vs : List AV} {us : List Value} {s : St} {p : List PV × List Eff}, Rel P X s mu ka cst a w → Dem m0 s.mem → (purs ks vs).val v0 = some p →
 VAs P (cx P X s.mem mu ka w) vs us → Purged P X s m0 (Qs s.mem p.2) mu ka cst a w ∧ VPs P w (Smut P X.S0 (Qs s.mem p.2) mu) p.1 us ∧ cfs ks p.1
 | [], [], us, s, p, h, hd, hp, hv => by
   simp only [purs, Rd.val, Option.some.injEq] at hp
   subst hp
   simp only [VAs] at hv
   subst hv
   exact ⟨Purged.refl h hd, by simp [VPs], trivial⟩
 | k :: ks, v :: vs, us, s, p, h, hd, hp, hv => by
   simp only [purs] at hp
   obtain ⟨p1, h1, hp⟩ := val_bind hp
   obtain ⟨p2, h2, hp⟩ := val_bind hp
   simp only [Rd.val, Option.some.injEq] at hp
   subst hp
   simp only [VAs] at hv
   obtain ⟨u, us, rfl, hv1, hv2⟩ := hv
   obtain ⟨g1, g2, g3⟩ := yB h hv0 hd h1 hv1
   obtain ⟨k1, k2, k3⟩ := qY hv0 g1.rel g1.dem h2 (VAs.le g1.le _ _ hv2)
   rw [jp]
   refine ⟨⟨g1.le.trans k1.le, k1.rel, k1.dem⟩, ?_, g3, k3⟩
   simp only [VPs]
   exact ⟨u, us, rfl, VP.keep k1.le.keep _ _ g2, k2⟩
 | [], _ :: _, us, s, p, h, hd, hp, hv => by simp [purs, Rd.val] at hp
 | _ :: _, [], us, s, p, h, hd, hp, hv => by simp [purs, Rd.val] at hp
def cfT (P : Program) (t : Nat) : PV → Prop
 | .agg cs => jq P t = true ∧ cfs (jy P t) cs
 | p => jq P t = false ∧ ∃ k, jy P t = [k] ∧ cf k p
theorem cfT.cells {t : Nat} {p : PV} (h : cfT P t p) : cfs (jy P t) p.cells := by
 cases p <;> simp only [cfT] at h
 case agg cs => exact h.2
 all_goals
  obtain ⟨_, k, hk, h2⟩ := h
  rw [hk]
  exact ⟨h2, trivial⟩
theorem YzX {k : K} {cs : List PV} (h : cf k (.agg cs)) : False := by
 have := h.one
 simp [PV.one] at this
theorem qB (h : Rel P X s mu ka cst a w) {v0 : View} {m0 : List (Nat × Ob)} (hv0 : v0.find = fun id => Zz id m0) (hd : Dem m0 s.mem) {t : Nat} {v : AV} {u : Value} {p : PV × List Eff} (hp : (purV P t v).val v0 = some p)
 (hv : VA P (cx P X s.mem mu ka w) v u) : Purged P X s m0 (Qs s.mem p.2) mu ka cst a w ∧ VP P w (Smut P X.S0 (Qs s.mem p.2) mu) p.1 u ∧ cfT P t p.1 := by
 unfold purV at hp
 split at hp
 · rename_i cs ha
   obtain ⟨q, h1, hp⟩ := val_bind hp
   simp only [Rd.val, Option.some.injEq] at hp
   subst hp
   simp only [VA] at hv
   obtain ⟨vs, rfl, hv⟩ := hv
   obtain ⟨g1, g2, g3⟩ := qY hv0 h hd h1 hv
   refine ⟨g1, ?_, ha, g3⟩
   simp only [VP]
   exact ⟨vs, rfl, g2⟩
 · rename_i ha
   split at hp
   · rename_i k hk
     obtain ⟨g1, g2, g3⟩ := yB h hv0 hd hp hv
     refine ⟨g1, g2, ?_⟩
     cases hq : p.1 with
     | agg cs => rw [hq] at g3; exact (YzX g3).elim
     | _ => rw [hq] at g3; exact ⟨ha, k, hk, g3⟩
   · simp [Rd.val] at hp
 · simp [Rd.val] at hp
theorem Zj {v0 : View} {m0 : List (Nat × Ob)} (hv0 : v0.find = fun id => Zz id m0) : ∀ {ts : List Nat} {vs : List AV} {us : List Value} {s : St} {p : List PV × List Eff}, Rel P X s mu ka cst a w → Dem m0 s.mem → (Ze P ts vs).val v0 = some p →
 VAs P (cx P X s.mem mu ka w) vs us → Purged P X s m0 (Qs s.mem p.2) mu ka cst a w ∧ VPs P w (Smut P X.S0 (Qs s.mem p.2) mu) p.1 us
 | [], [], us, s, p, h, hd, hp, hv => by
   simp only [Ze, Rd.val, Option.some.injEq] at hp
   subst hp
   simp only [VAs] at hv
   subst hv
   exact ⟨Purged.refl h hd, by simp [VPs]⟩
 | t :: ts, v :: vs, us, s, p, h, hd, hp, hv => by
   simp only [Ze] at hp
   obtain ⟨p1, h1, hp⟩ := val_bind hp
   obtain ⟨p2, h2, hp⟩ := val_bind hp
   simp only [Rd.val, Option.some.injEq] at hp
   subst hp
   simp only [VAs] at hv
   obtain ⟨u, us, rfl, hv1, hv2⟩ := hv
   obtain ⟨g1, g2, g3⟩ := qB h hv0 hd h1 hv1
   obtain ⟨k1, k2⟩ := Zj hv0 g1.rel g1.dem h2 (VAs.le g1.le _ _ hv2)
   rw [jp]
   refine ⟨⟨g1.le.trans k1.le, k1.rel, k1.dem⟩, ?_⟩
   simp only [VPs]
   exact ⟨u, us, rfl, VP.keep k1.le.keep _ _ g2, k2⟩
 | [], _ :: _, us, s, p, h, hd, hp, hv => by simp [Ze, Rd.val] at hp
 | _ :: _, [], us, s, p, h, hd, hp, hv => by simp [Ze, Rd.val] at hp
theorem Ye (h : Rel P X s mu ka cst a w) {v : AV} {u : Value} {y : Nat × List (List PV)} (hp : (jzX v).val s.view = some y) (hv : VA P (cx P X s.mem mu ka w) v u) :
 ∃ A k us, u = .slice A y.2.length k ∧ y.2.length ≤ k ∧ (∀ e ∈ y.2, cfs (jy P y.1) e) ∧ (us = [] ∨ ∃ b o, A = some ⟨b, o, none⟩ ∧ w.rangeAt b o us) ∧ VPss P w (Smut P X.S0 s.mem mu) y.2 us := by
 have lies : ∀ {A : Option Addr} {us : List Value}, Lies w (Smut P X.S0 s.mem mu) A us → (us = [] ∨ ∃ b o, A = some ⟨b, o, none⟩ ∧ w.rangeAt b o us) := fun q => q.imp id fun ⟨b, o, h1, h2, _⟩ => ⟨b, o, h1, h2⟩
 unfold jzX at hp
 split at hp
 · simp only [Rd.val, Option.some.injEq] at hp
   subst hp
   simp only [VA, VP] at hv
   obtain ⟨A, k, us, rfl, h1, h2, h3, h4⟩ := hv
   exact ⟨A, k, us, rfl, h1, h2, lies h3, h4⟩
 · simp only [Rd.val, Option.some.injEq] at hp
   subst hp
   simp only [VA] at hv
   obtain ⟨A, us, rfl, h2, h3, h4⟩ := hv
   exact ⟨A, _, us, rfl, Nat.le_refl _, h2, lies h3, h4⟩
 · rename_i id
   simp only [Rd.val, View.row, St.view] at hp
   cases hf : Zz id s.mem with
   | none => rw [hf] at hp; simp [Rd.val] at hp
   | some ob =>
     cases ob with
     | box cs => rw [hf] at hp; simp [Rd.val] at hp
     | chan q => rw [hf] at hp; simp [Rd.val] at hp
     | row m t xs =>
       rw [hf] at hp
       simp only [Rd.val, Option.some.injEq] at hp
       subst hp
       by_cases hm : m ≤ 1
       · have := h.ownList hf hm hv
         simp only [VP] at this
         obtain ⟨A, k, us, rfl, h1, h2, h3, h4⟩ := this
         exact ⟨A, k, us, rfl, h1, h2, lies h3, h4⟩
       · simp only [VA] at hv
         obtain ⟨t', n, hrt, hv⟩ := hv
         have hrt' : rtOf s.mem id = some (t', n) := hrt
         rw [Jn hf] at hrt'
         cases hrt'
         obtain ⟨m', rfl⟩ : ∃ m', m = m' + 1 := ⟨m - 1, by omega⟩
         rcases hv with ⟨b, hb, rfl⟩ | ⟨hb, hn, A, rfl⟩
         · obtain ⟨h1, h2, h3, vs, h4, h5, h6, h7⟩ := h.rowAt hf hb
           refine ⟨_, _, _, rfl, h3, h1, .inr ⟨b, 0, rfl, fun j u hu => ?_⟩, h7⟩
           rw [cell_of_row w b (0 + j) vs t (0, 0) h4, Nat.zero_add]
           rw [List.getElem?_take] at hu
           split at hu
           · simpa using hu
           · cases hu
         · obtain rfl := List.length_eq_zero_iff.1 hn
           exact ⟨A, 0, [], rfl, Nat.le_refl _, by simp, .inl rfl, by simp [VPss]⟩
 · simp [Rd.val] at hp
end
section
variable {P : Program} {X : Out} {s : St} {mu : Nat → Option Nat} {ka : Nat → Nat} {cst : List (List Value)} {act : Act} {w : World} {E : Env} {fr : Nat} {o : Oper} {p : AV × List Eff} {K : Act → World → Prop} {Q : Exit → Act → World → Prop}
theorem jB (h : Rel E.P X s mu ka cst act.tmps.toList w) {x : Operand} (ho : o.op = .move x ∨ o.op = .assign x) (hp : (evOp E fr o).val s.view = some p) (hK : Next E.P X (s.app o.dst p) cst act K) : o.wp E.P act w K Q := by
 have hp' : ((rdO x).bind okV).val s.view = some p := by rcases ho with ho | ho <;> simpa only [evOp, ho] using hp
 obtain ⟨v, h1, h2⟩ := val_bind hp'
 obtain rfl := Zx h2
 refine yx h ?_ (h.op h1) hK
 rcases ho with ho | ho <;> simp [execOp, ho]
theorem QzX (h : Rel E.P X s mu ka cst act.tmps.toList w) {c x y : Operand} (ho : o.op = .pick c x y) (hp : (evOp E fr o).val s.view = some p) (hK : Next E.P X (s.app o.dst p) cst act K) : o.wp E.P act w K Q := by
 simp only [evOp, ho] at hp
 obtain ⟨c', h1, hp⟩ := val_bind hp
 split at hp
 · rename_i c'
   obtain ⟨a', h2, hp⟩ := val_bind hp
   obtain ⟨b', h3, hp⟩ := val_bind hp
   have hc := Jo (h.op h1)
   simp only [VP] at hc
   cases c'
   · simp only [Rd.val, cond_false] at hp
     obtain rfl := Zx hp
     exact yx h (by simp [execOp, ho, hc, asBool, Sem.run_pure]) (h.op h3) hK
   · simp only [Rd.val, cond_true] at hp
     obtain rfl := Zx hp
     exact yx h (by simp [execOp, ho, hc, asBool, Sem.run_pure]) (h.op h2) hK
 · simp [Rd.val] at hp
theorem Q5 (h : Rel E.P X s mu ka cst act.tmps.toList w) {x : Operand} {k : Nat} (ho : o.op = .extract x k) (hp : (evOp E fr o).val s.view = some p) (hK : Next E.P X (s.app o.dst p) cst act K) : o.wp E.P act w K Q := by
 simp only [evOp, ho] at hp
 obtain ⟨v, h1, hp⟩ := val_bind hp
 split at hp
 · rename_i vs
   split at hp
   · rename_i v hv
     obtain rfl := Zx hp
     have hx := h.op h1
     simp only [VA] at hx
     obtain ⟨us, hu, hvs⟩ := hx
     obtain ⟨u, hu1, hu2⟩ := hvs.get hv
     refine yx h ?_ hu2 hK
     simp [execOp, ho, hu, Instr.extract, hu1]
   · simp [Rd.val] at hp
 · simp [Rd.val] at hp
theorem qD (h : Rel E.P X s mu ka cst act.tmps.toList w) {f : Fn} {x y : Array Operand} (ho : o.op = .makeFunc f x y) (hp : (evOp E fr o).val s.view = some p) (hK : Next E.P X (s.app o.dst p) cst act K) : o.wp E.P act w K Q := by
 simp only [evOp, ho] at hp
 obtain ⟨a, h1, hp⟩ := val_bind hp
 obtain ⟨b, h2, hp⟩ := val_bind hp
 obtain rfl := Zx hp
 refine yx (u := .func f (x.map act.eval) (y.map act.eval)) h (by simp [execOp, ho, Instr.makeFunc]) ?_ hK
 simp only [VA]
 refine ⟨_, _, ?_, h.opsL h1, h.opsL h2⟩
 congr 1 <;> (apply Array.ext'; simp)
theorem qu {t : Nat} {d : TypeDesc} (h : P.underlying t = some d) (w : World) : (underlying t).run P w = .ok d w := by simp [underlying, h]
theorem JX (h : Rel E.P X s mu ka cst act.tmps.toList w) {t : Nat} {x : Operand} (ho : o.op = .makeInterface t x) (hp : (evOp E fr o).val s.view = some p) (hK : Next E.P X (s.app o.dst p) cst act K) : o.wp E.P act w K Q := by
 simp only [evOp, ho] at hp
 obtain ⟨v, h1, hp⟩ := val_bind hp
 split at hp
 · simp [Rd.val] at hp
 · rename_i d hn hd
   obtain rfl := Zx hp
   refine yx (u := .iface t (act.eval x)) h ?_ ?_ hK
   · simp only [execOp, ho, Instr.makeInterface, Sem.run_bind, qu hd, Result.andThen_ok]
     cases d <;> first | rfl | (exact absurd hd (hn _))
   · simp only [VA]
     exact ⟨_, rfl, h.op h1⟩
 · simp [Rd.val] at hp
theorem qzL {c : Cx} {v : AV} {u : Value} (hr : Jyz v = true) (hv : VA P c v u) : (∃ a, u = .pointer (some a)) ∨ ∃ f as bs, u = .func (.func f) as bs := by
 cases v with
 | ptr id off =>
   simp only [VA] at hv
   obtain ⟨b, _, hv⟩ := hv
   exact .inl ⟨_, hv⟩
 | rpt id i off =>
   simp only [VA] at hv
   obtain ⟨b, t, n, _, _, _, hv⟩ := hv
   exact .inl ⟨_, hv⟩
 | ept t xs i off =>
   simp only [VA] at hv
   obtain ⟨b, o', us, _, _, _, _, hv⟩ := hv
   exact .inl ⟨_, hv⟩
 | psel id offs i =>
   simp only [VA] at hv
   obtain ⟨b, o', _, _, hv⟩ := hv
   exact .inl ⟨_, hv⟩
 | fn f first cap =>
   cases f with
   | func f =>
     simp only [VA] at hv
     obtain ⟨as, bs, hv, _⟩ := hv
     exact .inr ⟨_, _, _, hv⟩
   | _ => simp [Jyz] at hr
 | _ => simp [Jyz] at hr
theorem jD (h : Rel E.P X s mu ka cst act.tmps.toList w) {x : Operand} (ho : o.op = .nilCheck x) (hp : (evOp E fr o).val s.view = some p) (hK : Next E.P X (s.app o.dst p) cst act K) : o.wp E.P act w K Q := by
 simp only [evOp, ho] at hp
 obtain ⟨v, h1, hp⟩ := val_bind hp
 obtain ⟨hr, hp⟩ := Qy hp
 obtain rfl := Zx hp
 have hx := h.op h1
 refine yx h ?_ hx hK
 rcases qzL hr hx with ⟨a, e⟩ | ⟨f, as, bs, e⟩ <;> simp [execOp, ho, e]
theorem J5 (k : IntKind) (n : Int) (w : World) : (Op.unary .neg (.int k n)).run P w = .ok (.int k (k.wrap (0 - n))) w := rfl
theorem JzX (h : Rel E.P X s mu ka cst act.tmps.toList w) {op : UnOp} {t : Nat} {x : Operand} (ho : o.op = .unOp op t x) (hp : (evOp E fr o).val s.view = some p) (hK : Next E.P X (s.app o.dst p) cst act K) : o.wp E.P act w K Q := by
 simp only [evOp, ho] at hp
 obtain ⟨v, h1, hp⟩ := val_bind hp
 obtain ⟨q, h2, hp⟩ := val_bind hp
 obtain rfl := Zx hp
 have hx := h.op h1
 unfold unA at h2
 split at h2
 · simp only [Rd.val, Option.some.injEq] at h2
   subst h2
   have hx' := Jo hx
   simp only [VP] at hx'
   exact yx (u := .int _ _) h (by simp only [execOp, ho, hx', Sem.run_bind, J5, Result.andThen_ok, Sem.run_pure]; rfl) (by simp [VA, VP]) hK
 · simp only [Rd.val, Option.some.injEq] at h2
   subst h2
   have hx' := Jo hx
   simp only [VP] at hx'
   exact yx (u := .bool _) h (by simp only [execOp, ho, hx', Op.unary, Sem.run_bind, Result.andThen_ok, Sem.run_pure]; rfl) (by simp [VA, VP]) hK
 · simp [Rd.val] at h2
theorem yyb {P : Program} {e : Nat} (h : isU8 P e = true) : P.underlying e = some (.int .u8) := by
 unfold isU8 at h
 split at h
 · assumption
 · cases h
theorem jyy {P : Program} {e : Nat} (h : P.underlying e = some (.int .u8)) : jy P e = [.int .u8] := by
 simp [jy, jj, h]
theorem zzw {P : Program} {w : World} {S : Nat → Nat → Prop} : ∀ {xs : List (List PV)} {us : List Value}, (∀ e ∈ xs, cfs [.int .u8] e) → VPss P w S xs us → us = (xs.map fun e => pInt (e.headD .undef)).map (Value.int .u8)
 | [], us, _, h => by
   simp only [VPss] at h
   subst h
   rfl
 | e :: xs, us, hc, h => by
   simp only [VPss] at h
   obtain ⟨u1, u2, rfl, h1, h2⟩ := h
   have he := hc e (by simp)
   have := zzw (fun f hf => hc f (by simp [hf])) h2
   match e, he, h1 with
   | [c], he, h1 =>
     obtain ⟨⟨n, rfl⟩, _⟩ := he
     simp only [VPs, VP] at h1
     obtain ⟨u, us', rfl, rfl, rfl⟩ := h1
     rw [this]
     rfl
theorem j6 (h : Rel E.P X s mu ka cst act.tmps.toList w) {t d : Nat} {x : Operand} (ho : o.op = .convert t d x) (hp : (evOp E fr o).val s.view = some p) (hK : Next E.P X (s.app o.dst p) cst act K) : o.wp E.P act w K Q := by
 simp only [evOp, ho] at hp
 obtain ⟨v, h1, hp⟩ := val_bind hp
 have hx := h.op h1
 split at hp
 · rename_i k1 k2 k3 n e1 e2
   obtain rfl := Zx hp
   have hx' := Jo hx
   simp only [VP] at hx'
   refine yx (u := .int k2 (k2.wrap n)) h ?_ (by simp only [VA, VP]) hK
   simp only [execOp, ho, hx', convert, Sem.run_bind, qu e1, qu e2, Result.andThen_ok, Conv.intToInt, Sem.run_pure]
 · rename_i s' e1 e2
   obtain rfl := Zx hp
   have hx' := Jo hx
   simp only [VP] at hx'
   refine yx (u := .string s') h ?_ (by simp only [VA, VP]) hK
   simp only [execOp, ho, hx', convert, Sem.run_bind, qu e1, qu e2, Result.andThen_ok, Sem.run_pure]
 · rename_i el v e1 e2
   obtain ⟨g1, hp⟩ := Qy hp
   obtain ⟨y, h2, hp⟩ := val_bind hp
   obtain ⟨g2, hp⟩ := Qy hp
   obtain rfl := Zx hp
   have hu8 := yyb g1
   obtain ⟨A, k, us, x1, x2, x3, x4, x5⟩ := Ye h h2 hx
   obtain ⟨ye, ys⟩ := y
   simp only at x1 x2 x3 x4 x5 g2
   obtain rfl := eq_of_beq g2
   rw [jyy hu8] at x3
   have hus := zzw x3 x5
   refine yx (u := .string (YyQ ys)) h ?_ (by simp only [VA, VP]) hK
   simp only [execOp, ho, x1, Sem.run_bind]
   rw [run_convert_bytes_string w t d ye A ys.length k e1 hu8 e2]
   cases A with
   | none =>
     have hl : ys = [] := by
      rcases x4 with rfl | ⟨b, o, q, _⟩
      · cases ys with
        | nil => rfl
        | cons a l => simp at hus
      · cases q
     subst hl
     rfl
   | some a =>
     rw [run_bytesToString w a ys.length k (ys.map fun e => pInt (e.headD .undef)) ?_]
     · rfl
     · rw [← hus]
       have hl : us.length = ys.length := by rw [hus]; simp
       rw [← hl]
       refine run_loadCells_list w a us fun j v hj => ?_
       rcases x4 with rfl | ⟨b, o, q, hr⟩
       · simp at hj
       · cases q
         by_cases hj0 : j = 0
         · subst hj0
           simpa [Addr.add] using hr 0 v hj
         · simp only [Addr.add, if_neg hj0]
           exact hr j v hj
 · simp [Rd.val] at hp
theorem Z6 (op : BinOp) (t : Nat) (x y : Operand) (k j : IntKind) (a b : Int) (w : World) : (eqGuard op t x y (.int k a) (.int j b)).run P w = .ok () w := by
 unfold eqGuard; split <;> rfl
theorem Y6 (op : BinOp) (t : Nat) (x y : Operand) (a b : ByteArray) (w : World) : (eqGuard op t x y (.string a) (.string b)).run P w = .ok () w := by
 unfold eqGuard; split <;> rfl
theorem ZD (op : BinOp) (t : Nat) (x y : Operand) (a b : Bool) (w : World) : (eqGuard op t x y (.bool a) (.bool b)).run P w = .ok () w := by
 unfold eqGuard; split <;> rfl
def pval : PV → Value
 | .int k n => .int k n
 | .bool b => .bool b
 | .str s => .string s
 | _ => undef
def scal : PV → Prop
 | .int _ _ | .bool _ | .str _ => True
 | _ => False
theorem scal.vp {q : PV} (h : scal q) (w : World) (S : Nat → Nat → Prop) : VP P w S q (pval q) := by
 cases q <;> simp only [scal] at h <;> simp only [VP, pval]
theorem qzn {v0 : View} {op : BinOp} {k : IntKind} {a b : Int} {q : PV} (hq : (Yzo op k a b).val v0 = some q) (hs : op ≠ .shl ∧ op ≠ .shr) (t : Nat) (w : World) :
 (binOp op t (.int k a) (.int k b)).run P w = .ok (pval q) w ∧ scal q := by
 cases op <;> simp only [Yzo] at hq
 case add => simp only [Rd.val, Option.some.injEq] at hq; subst hq; exact ⟨by simp [binOp, Op.intArith, pval], trivial⟩
 case sub => simp only [Rd.val, Option.some.injEq] at hq; subst hq; exact ⟨by simp [binOp, Op.intArith, pval], trivial⟩
 case mul => simp only [Rd.val, Option.some.injEq] at hq; subst hq; exact ⟨by simp [binOp, Op.intArith, pval], trivial⟩
 case quo =>
  obtain ⟨hc, hq⟩ := Zo hq
  have hc' := of_decide_eq_true hc
  simp only [Rd.val, Option.some.injEq] at hq; subst hq
  exact ⟨by simp [binOp, Op.intDiv, hc', pval], trivial⟩
 case rem =>
  obtain ⟨hc, hq⟩ := Zo hq
  have hc' := of_decide_eq_true hc
  simp only [Rd.val, Option.some.injEq] at hq; subst hq
  exact ⟨by simp [binOp, Op.intDiv, hc', pval], trivial⟩
 case and => simp only [Rd.val, Option.some.injEq] at hq; subst hq; exact ⟨by simp [binOp, Op.intBits, pval], trivial⟩
 case or => simp only [Rd.val, Option.some.injEq] at hq; subst hq; exact ⟨by simp [binOp, Op.intBits, pval], trivial⟩
 case xor => simp only [Rd.val, Option.some.injEq] at hq; subst hq; exact ⟨by simp [binOp, Op.intBits, pval], trivial⟩
 case shl => exact absurd rfl hs.1
 case shr => exact absurd rfl hs.2
 case eql => simp only [Rd.val, Option.some.injEq] at hq; subst hq; exact ⟨by simp [binOp, Op.intCmp, pval], trivial⟩
 case neq => simp only [Rd.val, Option.some.injEq] at hq; subst hq; exact ⟨by simp [binOp, Op.intCmp, pval], trivial⟩
 case lss => simp only [Rd.val, Option.some.injEq] at hq; subst hq; exact ⟨by simp [binOp, Op.intCmp, pval], trivial⟩
 case leq => simp only [Rd.val, Option.some.injEq] at hq; subst hq; exact ⟨by simp [binOp, Op.intCmp, pval], trivial⟩
 case gtr => simp only [Rd.val, Option.some.injEq] at hq; subst hq; exact ⟨by simp [binOp, Op.intCmp, pval], trivial⟩
 case geq => simp only [Rd.val, Option.some.injEq] at hq; subst hq; exact ⟨by simp [binOp, Op.intCmp, pval], trivial⟩
 all_goals simp [Rd.val] at hq
theorem ZL {v0 : View} {op : BinOp} {k j : IntKind} {a b : Int} {q : PV} (hq : (Yzo op k a b).val v0 = some q) (hs : op = .shl ∨ op = .shr) (t : Nat) (w : World) :
 (binOp op t (.int k a) (.int j b)).run P w = .ok (pval q) w ∧ scal q := by
 rcases hs with rfl | rfl
 all_goals
  simp only [Yzo] at hq
  obtain ⟨hc, hq⟩ := Zo hq
  have hc' : ¬ b < 0 := by have := of_decide_eq_true hc; omega
  simp only [Rd.val, Option.some.injEq] at hq; subst hq
  exact ⟨by simp [binOp, Op.shift, hc', pval], trivial⟩
theorem jzL {v0 : View} {op : BinOp} {a b : ByteArray} {q : PV} (hq : (Yyc op a b).val v0 = some q) (t : Nat) (w : World) :
 (binOp op t (.string a) (.string b)).run P w = .ok (pval q) w ∧ scal q := by
 cases op <;> simp only [Yyc] at hq
 case add =>
  obtain ⟨hc, hq⟩ := Zo hq
  have hc' := of_decide_eq_true hc
  simp only [Rd.val, Option.some.injEq] at hq; subst hq
  have hn : ¬ (((a.size + b.size : Nat) : Int) > IntKind.i64.max) := by
   have e2 : IntKind.i64.max = 9223372036854775807 := by decide
   rw [e2]; omega
  exact ⟨by simp only [binOp, Op.stringOp, if_neg hn, Sem.run_pure, pval], trivial⟩
 case eql => simp only [Rd.val, Option.some.injEq] at hq; subst hq; exact ⟨by simp only [binOp, Op.stringOp, Sem.run_pure, pval], trivial⟩
 case neq => simp only [Rd.val, Option.some.injEq] at hq; subst hq; exact ⟨by simp only [binOp, Op.stringOp, Sem.run_pure, pval], trivial⟩
 all_goals simp [Rd.val] at hq
end
section
variable {P : Program} {w : World} {c : Cx}
theorem qV {t : Nat} {d : TypeDesc} (h : P.underlying t = some d) : ∃ i, P.info? t = some i := by
 unfold Program.underlying at h
 split at h
 · exact ⟨_, ‹_›⟩
 · exact ⟨_, ‹_›⟩
 · cases h
theorem jV {t : Nat} {d : TypeDesc} (h : P.underlying t = some d) : (isAgg t).run P w = .ok (jq P t) w := by
 unfold isAgg jq
 rw [Sem.run_bind, qu h, Result.andThen_ok, h]
 cases d <;> rfl
theorem Yj {t : Nat} {i : TypeInfo} (h : P.info? t = some i) : (sizeOf t).run P w = .ok (Qx P t) w := by
 simp [sizeOf, typeInfo, h, Qx]
theorem Yb {t off : Nat} {cs : Array Value} {d : TypeDesc} (h : P.underlying t = some d) (ha : jq P t = true) :
 (part t cs off).run P w = .ok (.agg ((cs.toList.drop off).take (Qx P t)).toArray) w := by
 obtain ⟨i, hi⟩ := qV h
 unfold part
 rw [Sem.run_bind, jV h, Result.andThen_ok, ha]
 simp only [if_true, Sem.run_bind, Yj hi, Result.andThen_ok, Sem.run_pure, Sem.run_map]
 congr 2
 apply Array.ext'
 simp [List.take_drop]
theorem Qe {t off : Nat} {cs : Array Value} {d : TypeDesc} {v : Value} (h : P.underlying t = some d) (ha : jq P t = false) (hv : cs.toList[off]? = some v) :
 (part t cs off).run P w = .ok v w := by
 unfold part
 rw [Sem.run_bind, jV h, Result.andThen_ok, ha]
 have : cs[off]? = some v := by rw [← hv]; simp
 simp [this]
def ZzL (P : Program) (t : Nat) (vs : List Value) (x : Value) : Prop := (jq P t = true ∧ x = .agg vs.toArray) ∨ (jq P t = false ∧ vs = [x])
theorem yzw {td : TypeDesc} {as bs : List AV} {r : Bool} (h : jzh td as bs = some r) {vs us : List Value} (h1 : VAs P c as vs) (h2 : VAs P c bs us) {t : Nat} (ht : P.underlying t = some td) (D : Nat) :
 ∃ x y, vs = [x] ∧ us = [y] ∧ (Op.equalIn (D + 1) t x y).run P w = .ok r w := by
 unfold jzh at h
 split at h
 · rename_i k i x j y
   simp only [VAs, VA, VP] at h1 h2
   obtain ⟨_, _, rfl, rfl, rfl⟩ := h1
   obtain ⟨_, _, rfl, rfl, rfl⟩ := h2
   split at h
   · rename_i hk
     obtain rfl := of_decide_eq_true hk
     cases h
     exact ⟨_, _, rfl, rfl, run_equalIn_int w D t i _ x y ht⟩
   · cases h
 · simp only [VAs, VA, VP] at h1 h2
   obtain ⟨_, _, rfl, rfl, rfl⟩ := h1
   obtain ⟨_, _, rfl, rfl, rfl⟩ := h2
   cases h
   exact ⟨_, _, rfl, rfl, run_equalIn_bool' w D t _ _ ht⟩
 · simp only [VAs, VA, VP] at h1 h2
   obtain ⟨_, _, rfl, rfl, rfl⟩ := h1
   obtain ⟨_, _, rfl, rfl, rfl⟩ := h2
   cases h
   exact ⟨_, _, rfl, rfl, run_equalIn_string w D t _ _ ht⟩
 · cases h
theorem qzw : ∀ (d : Nat) {t : Nat} {as bs : List AV} {r : Bool}, eqT P d t as bs = some r → ∀ {vs us : List Value}, VAs P c as vs → VAs P c bs us → ∀ (k : Nat),
 ∃ x y, ZzL P t vs x ∧ ZzL P t us y ∧ (∃ td, P.underlying t = some td) ∧ (Op.equalIn (d + k) t x y).run P w = .ok r w
 | 0, t, as, bs, r, h, vs, us, h1, h2, k => by simp [eqT] at h
 | d + 1, t, as, bs, r, h, vs, us, h1, h2, k => by
   rw [eqT] at h
   dsimp only at h
   split at h
   · rename_i fs ht
     split at h
     · cases h
     · rename_i hp
       have ha : jq P t = true := by simp [jq, ht]
       have hfs : P.fieldsOf t = fs := by simp [Program.fieldsOf, ht]
       refine ⟨.agg vs.toArray, .agg us.toArray, .inl ⟨ha, rfl⟩, .inl ⟨ha, rfl⟩, ⟨_, ht⟩, ?_⟩
       rw [show d + 1 + k = (d + k) + 1 by omega, run_equalIn_struct w (d + k) t _ _ (by rw [hfs]; exact ht) hp, hfs]
       clear ht hfs hp ha
       generalize fs.toList = fl at h ⊢
       induction fl generalizing r with
       | nil =>
         simp only [eqFs, Option.some.injEq] at h
         subst h
         simp [Op.eqFields]
       | cons f fl ih =>
         simp only [eqFs] at h
         split at h
         · rename_i a b hn ha hb
           cases h
           have hn' : f.name ≠ "_" := by simpa using hn
           obtain ⟨x, y, hx, hy, ⟨td, htd⟩, hr⟩ := qzw d ha ((h1.drop f.offset).take (Qx P f.type)) ((h2.drop f.offset).take (Qx P f.type)) k
           have px : (part f.type vs.toArray f.offset).run P w = .ok x w := by
            rcases hx with ⟨q, rfl⟩ | ⟨q, hq⟩
            · exact Yb htd q
            · refine Qe htd q ?_
              have : ((vs.drop f.offset).take (Qx P f.type))[0]? = some x := by rw [hq]; rfl
              rw [List.getElem?_take] at this
              split at this
              · simpa using this
              · cases this
           have py : (part f.type us.toArray f.offset).run P w = .ok y w := by
            rcases hy with ⟨q, rfl⟩ | ⟨q, hq⟩
            · exact Yb htd q
            · refine Qe htd q ?_
              have : ((us.drop f.offset).take (Qx P f.type))[0]? = some y := by rw [hq]; rfl
              rw [List.getElem?_take] at this
              split at this
              · simpa using this
              · cases this
           simp only [Op.eqFields, hn', ne_eq, not_false_eq_true, if_true, Sem.run_bind, px, py, hr, Result.andThen_ok, Sem.run_ite]
           cases a
           · simp
           · simpa using ih _ hb
         · cases h
   · rename_i td hn ht
     obtain ⟨x, y, rfl, rfl, hr⟩ := yzw (w := w) h h1 h2 ht (d + k)
     have ha : jq P t = false := by
      unfold jzh at h
      split at h
      · simp [jq, ht]
      · simp [jq, ht]
      · simp [jq, ht]
      · cases h
     exact ⟨x, y, .inr ⟨ha, rfl⟩, .inr ⟨ha, rfl⟩, ⟨_, ht⟩, by rw [show d + 1 + k = (d + k) + 1 by omega]; exact hr⟩
   · cases h
end
section
variable {P : Program} {X : Out} {s : St} {mu : Nat → Option Nat} {ka : Nat → Nat} {cst : List (List Value)} {act : Act} {w : World} {E : Env} {fr : Nat} {o : Oper} {p : AV × List Eff} {K : Act → World → Prop} {Q : Exit → Act → World → Prop}
theorem zf (d t : Nat) {ms : _} (h : P.underlying t = some (.interface ms)) (a : Nat) (b : Value) (w : World) : (Op.equalIn (d + 1) t (.iface a b) .nilIface).run P w = .ok false w := by
 rw [Op.equalIn]
 simp [run_underlying h]
theorem yc (d t : Nat) {ms : _} (h : P.underlying t = some (.interface ms)) (w : World) : (Op.equalIn (d + 1) t .nilIface .nilIface).run P w = .ok true w := by
 rw [Op.equalIn]
 simp [run_underlying h]
theorem ZV (d t : Nat) {ms : _} (h : P.underlying t = some (.interface ms)) (w : World) : (Op.eqGuardIn (d + 1) t .nilIface .nilIface).run P w = .ok (!ms.isEmpty) w := by
 rw [Op.eqGuardIn]
 simp [run_underlying h]
theorem jX (op : BinOp) (t : Nat) {ms : _} (h : P.underlying t = some (.interface ms)) (hm : ms.isEmpty = true) (x y : Operand) (w : World) : (eqGuard op t x y .nilIface .nilIface).run P w = .ok () w := by
 have e : (Op.eqGuardIn 10000 t .nilIface .nilIface).run P w = .ok false w := by
  have := ZV 9999 t h w
  rw [hm] at this
  exact this
 unfold eqGuard
 simp only [Op.maxDepth]
 split
 case h_3 => rfl
 all_goals
  simp only [Bool.not_true, Bool.false_eq_true, if_false]
  split
  · rfl
  · simp [Sem.run_bind, e]
theorem qc (d t : Nat) {a1 a2 a3 : _} (h : P.underlying t = some (.func a1 a2 a3)) (f : Fn) (a b : Array Value) (w : World) : (Op.equalIn (d + 1) t (.func f a b) .nilFunc).run P w = .ok false w := by
 rw [Op.equalIn]
 simp [run_underlying h]
theorem jc (d t : Nat) {a1 a2 a3 : _} (h : P.underlying t = some (.func a1 a2 a3)) (w : World) : (Op.equalIn (d + 1) t .nilFunc .nilFunc).run P w = .ok true w := by
 rw [Op.equalIn]
 simp [run_underlying h]
theorem YL {v0 : View} {op : BinOp} {t : Nat} {q : PV} (hq : (Qzo P op t false).val v0 = some q) (f : Fn) (a b : Array Value) : (binOp op t (.func f a b) .nilFunc).run P w = .ok (pval q) w ∧ scal q := by
 unfold Qzo at hq
 split at hq
 · rename_i ht
   simp only [Rd.val, Option.some.injEq] at hq
   subst hq
   exact ⟨by simp [binOp, Op.equal, Op.maxDepth, qc 9999 t ht, pval], trivial⟩
 · rename_i ht
   simp only [Rd.val, Option.some.injEq] at hq
   subst hq
   exact ⟨by simp [binOp, Op.equal, Op.maxDepth, qc 9999 t ht, pval], trivial⟩
 · simp [Rd.val] at hq
theorem zzW {v0 : View} {op : BinOp} {t : Nat} {q : PV} (hq : (Qzo P op t true).val v0 = some q) : (binOp op t .nilFunc .nilFunc).run P w = .ok (pval q) w ∧ scal q := by
 unfold Qzo at hq
 split at hq
 · rename_i ht
   simp only [Rd.val, Option.some.injEq] at hq
   subst hq
   exact ⟨by simp [binOp, Op.equal, Op.maxDepth, jc 9999 t ht, pval], trivial⟩
 · rename_i ht
   simp only [Rd.val, Option.some.injEq] at hq
   subst hq
   exact ⟨by simp [binOp, Op.equal, Op.maxDepth, jc 9999 t ht, pval], trivial⟩
 · simp [Rd.val] at hq
theorem yzW {c : Cx} {v0 : View} {op : BinOp} {t : Nat} {x y : AV} {q : PV} (hq : (binA P op t x y).val v0 = some q) {u v : Value} (hu : VA P c x u) (hv : VA P c y v) (xo yo : Operand) :
 ((eqGuard op t xo yo u v).run P w = .ok () w) ∧ (binOp op t u v).run P w = .ok (pval q) w ∧ scal q := by
 unfold binA at hq
 split at hq
 · rename_i k a j b
   simp only [VA, VP] at hu hv
   subst hu; subst hv
   refine ⟨Z6 op t xo yo k j a b w, ?_⟩
   split at hq
   · exact ZL hq (.inl rfl) t w
   · exact ZL hq (.inr rfl) t w
   · rename_i n1 n2
     obtain ⟨hk, hq2⟩ := Qy hq
     obtain rfl := of_decide_eq_true hk
     exact qzn hq2 ⟨n1, n2⟩ t w
 · simp only [VA, VP] at hu hv
   subst hu; subst hv
   exact ⟨Y6 op t xo yo _ _ w, jzL hq t w⟩
 · rename_i a b
   simp only [VA, VP] at hu hv
   subst hu; subst hv
   refine ⟨ZD op t xo yo _ _ w, ?_⟩
   split at hq
   · split at hq
     · rename_i ht
       simp only [Rd.val, Option.some.injEq] at hq
       subst hq
       exact ⟨by simp [binOp, Op.equal, Op.maxDepth, run_equalIn_bool' w 9999 t a b ht, pval], trivial⟩
     · simp [Rd.val] at hq
   · split at hq
     · rename_i ht
       simp only [Rd.val, Option.some.injEq] at hq
       subst hq
       exact ⟨by simp [binOp, Op.equal, Op.maxDepth, run_equalIn_bool' w 9999 t a b ht, pval], trivial⟩
     · simp [Rd.val] at hq
   · simp [Rd.val] at hq
 · rename_i xs ys
   obtain ⟨hg, hq2⟩ := Qy hq
   simp only [Bool.and_eq_true, Bool.not_eq_true'] at hg
   simp only [VA] at hu hv
   obtain ⟨vs, rfl, hvs⟩ := hu
   obtain ⟨us, rfl, hus⟩ := hv
   refine ⟨run_eqGuard_agg w op t xo yo _ _ hg.2, ?_⟩
   have key : ∀ r, eqT P 20 t xs ys = some r → (Op.equalIn 10000 t (.agg vs.toArray) (.agg us.toArray)).run P w = .ok r w := by
    intro r hr
    obtain ⟨x, y, hx, hy, _, he⟩ := qzw (w := w) 20 hr hvs hus 9980
    rcases hx with ⟨_, rfl⟩ | ⟨q, _⟩
    · rcases hy with ⟨_, rfl⟩ | ⟨q, _⟩
      · exact he
      · rw [hg.1] at q; cases q
    · rw [hg.1] at q; cases q
   clear hq
   cases he : eqT P 20 t xs ys with
   | none => rw [he] at hq2; simp [Rd.val] at hq2
   | some b =>
     rw [he] at hq2
     cases op <;> simp only [Rd.val, Option.some.injEq, reduceCtorEq] at hq2
     case eql =>
      subst hq2
      exact ⟨by rw [run_eql_struct, key b he]; rfl, trivial⟩
     case neq =>
      subst hq2
      exact ⟨by rw [run_neq_struct, key b he]; rfl, trivial⟩
 · rename_i t1 a1
   simp only [VA, VP] at hu hv
   obtain ⟨u1, rfl, _⟩ := hu
   subst hv
   refine ⟨by unfold eqGuard; split <;> rfl, ?_⟩
   split at hq
   · rename_i ms ht
     simp only [Rd.val, Option.some.injEq] at hq
     subst hq
     exact ⟨by simp [binOp, Op.equal, Op.maxDepth, zf 9999 t ht, pval], trivial⟩
   · rename_i ms ht
     simp only [Rd.val, Option.some.injEq] at hq
     subst hq
     exact ⟨by simp [binOp, Op.equal, Op.maxDepth, zf 9999 t ht, pval], trivial⟩
   · simp [Rd.val] at hq
 · simp only [VA, VP] at hu hv
   subst hu
   subst hv
   split at hq
   · rename_i ms ht
     obtain ⟨hms, hq⟩ := Qy hq
     simp only [Rd.val, Option.some.injEq] at hq
     subst hq
     exact ⟨jX _ t ht hms xo yo w, by simp [binOp, Op.equal, Op.maxDepth, yc 9999 t ht, pval], trivial⟩
   · rename_i ms ht
     obtain ⟨hms, hq⟩ := Qy hq
     simp only [Rd.val, Option.some.injEq] at hq
     subst hq
     exact ⟨jX _ t ht hms xo yo w, by simp [binOp, Op.equal, Op.maxDepth, yc 9999 t ht, pval], trivial⟩
   · simp [Rd.val] at hq
 · simp only [VA, VP] at hu hv
   obtain ⟨as, bs, rfl, _⟩ := hu
   subst hv
   exact ⟨by unfold eqGuard; split <;> rfl, YL hq _ _ _⟩
 · simp only [VA, VP] at hu hv
   subst hu; subst hv
   exact ⟨by unfold eqGuard; split <;> rfl, YL hq _ _ _⟩
 · simp only [VA, VP] at hu hv
   subst hu; subst hv
   exact ⟨by unfold eqGuard; split <;> rfl, zzW hq⟩
 · simp [Rd.val] at hq
theorem jzn (h : Rel E.P X s mu ka cst act.tmps.toList w) {op : BinOp} {t t2 : Nat} {x y : Operand} (ho : o.op = .binOp op t x y t2) (hp : (evOp E fr o).val s.view = some p) (hK : Next E.P X (s.app o.dst p) cst act K) : o.wp E.P act w K Q := by
 simp only [evOp, ho] at hp
 obtain ⟨u, h1, hp⟩ := val_bind hp
 obtain ⟨v, h2, hp⟩ := val_bind hp
 obtain ⟨q, h3, hp⟩ := val_bind hp
 obtain rfl := Zx hp
 obtain ⟨g1, g2, g3⟩ := yzW (w := w) h3 (h.op h1) (h.op h2) x y
 refine yx (u := pval q) h ?_ (by simp only [VA]; exact g3.vp _ _) hK
 simp only [execOp, ho, Sem.run_bind, g1, g2, Result.andThen_ok, Sem.run_pure]
end
theorem jzw {u : Value} (h : u.oneCell' = true) : u.cells = #[u] := by
 cases u <;> simp_all [Value.oneCell', Value.cells]
section
variable {P : Program} {c : Cx} {w : World}
theorem QL {v : AV} {u : Value} (h : VA P c v u) (ho : v.cells.all AV.one = true) : VAs P c v.cells u.cells.toList ∧ u.cells.all (·.oneCell') = true := by
 have single : ∀ {v : AV}, v.cells = [v] → VA P c v u → v.one = true → VAs P c v.cells u.cells.toList ∧ u.cells.all (·.oneCell') = true := by
  intro v hc hv h1
  have hu := VA.one hv h1
  rw [hc, jzw hu]
  refine ⟨?_, by simp [hu]⟩
  simp only [VAs]
  exact ⟨u, [], rfl, hv, rfl⟩
 cases v with
 | agg cs =>
   simp only [VA] at h
   obtain ⟨vs, rfl, hvs⟩ := h
   refine ⟨hvs, ?_⟩
   have ho' : cs.all AV.one = true := ho
   simp only [Value.cells, List.all_toArray]
   rw [List.all_eq_true]
   intro x hx
   obtain ⟨i, hi, rfl⟩ := List.getElem_of_mem hx
   have hi' : i < cs.length := by rw [← hvs.length]; exact hi
   obtain ⟨y, hy1, hy2⟩ := hvs.get (i := i) (List.getElem?_eq_getElem hi')
   rw [List.getElem?_eq_getElem hi] at hy1
   cases hy1
   exact VA.one hy2 (List.all_eq_true.1 ho' _ (List.getElem_mem hi'))
 | pv p => exact single rfl h (by simpa [AV.cells] using ho)
 | lit t xs => exact single rfl h rfl
 | ptr id off => exact single rfl h rfl
 | own id => exact single rfl h rfl
 | rpt id i off => exact single rfl h rfl
 | ept t xs i off => exact single rfl h rfl
 | pts id offs => exact single rfl h rfl
 | pel id offs i => exact single rfl h rfl
 | psel id offs i => exact single rfl h rfl
 | chn id => exact single rfl h rfl
 | fn f a b => exact single rfl h rfl
 | iface t a => exact single rfl h rfl
 | tup vs => simp [AV.cells, AV.one] at ho
theorem zQ {t : Nat} {d : TypeDesc} {b o : Nat} {us : List Value} (hu : P.underlying t = some d) (ha : jq P t = true) (hr : w.rangeAt b o us) (hl : us.length = Qx P t) :
 (loadVar t ⟨b, o, none⟩).run P w = .ok (.agg us.toArray) w := by
 obtain ⟨i, hi⟩ := qV hu
 have hc := run_loadCells_list (P := P) w ⟨b, o, none⟩ us (fun j v hv => by rw [Addr.add_mid]; exact hr j v hv)
 rw [hl] at hc
 simp [loadVar, Sem.run_bind, jV hu, ha, Yj hi, hc]
theorem yg {t : Nat} {d : TypeDesc} {b o : Nat} {u : Value} (hu : P.underlying t = some d) (ha : jq P t = false) (hr : w.cell? ⟨b, o, none⟩ = some u) :
 (loadVar t ⟨b, o, none⟩).run P w = .ok u w := by
 simp [loadVar, Sem.run_bind, jV hu, ha, hr]
theorem Zzw {t b o T : Nat} {u : Value} {vs : Array Value} (hi : (P.info? t).isSome = true) (hl : u.cells.size = Qx P t) (h1 : u.cells.all (·.oneCell') = true) (hg : w.heap[b]? = some (.cells vs T (0, 0))) (hf : o + u.cells.size ≤ vs.size) :
 (storeVar t ⟨b, o, none⟩ u).run P w = .ok () (w.setRow b (jx vs.toList o u.cells.toList).toArray) := by
 obtain ⟨i, hi⟩ := Option.isSome_iff_exists.1 hi
 have := run_storeCells_at P b o T u.cells.toList 0 vs w hg (by simpa using hf) (fun v hv => (Array.all_eq_true_iff_forall_mem.1 h1) v (by simpa using hv))
 simp only [Nat.add_zero] at this
 simp only [storeVar, Sem.run_bind, Yj hi, Result.andThen_ok]
 rw [if_neg (by simpa using hl)]
 exact this
theorem Jzg {k : K} {v : Value} (h : Qyz k v = true) : VA P c (QW k) v := by
 unfold Qyz at h
 split at h
 · simp only [Bool.and_eq_true, decide_eq_true_eq, beq_iff_eq] at h
   obtain ⟨rfl, rfl⟩ := h
   simp [QW, jT, VA, VP]
 · rename_i b
   have h' : b = false := by simpa using h
   subst h'
   simp [QW, jT, VA, VP]
 · rename_i s
   have h' : s.size = 0 := by simpa using h
   obtain rfl := yD h'
   simp [QW, jT, VA, VP]
 · simp only [QW, VA]
   exact ⟨none, [], rfl, by simp, .inl rfl, by simp [VPss]⟩
 · simp [QW, jT, VA, VP]
 · simp [QW, jT, VA, VP]
 · cases h
theorem Yzw : ∀ {ks : List K} {vs : List Value}, zc ks vs = true → VAs P c (ks.map QW) vs
 | [], [], _ => by simp [VAs]
 | k :: ks, v :: vs, h => by
   simp only [zc, Bool.and_eq_true] at h
   simp only [List.map_cons, VAs]
   exact ⟨v, vs, rfl, Jzg h.1, Yzw h.2⟩
 | [], _ :: _, h => by simp [zc] at h
 | _ :: _, [], h => by simp [zc] at h
theorem yf {t : Nat} (h : YM P t = true) : ∃ i z, P.info? t = some i ∧ i.zero = some z ∧ (∀ c, VAs P c ((jy P t).map QW) z.cells.toList) ∧ (jy P t).length = i.size ∧ (jy P t).length = Qx P t ∧ zc (jy P t) z.cells.toList = true := by
 unfold YM at h
 split at h
 · rename_i i hi
   split at h
   · rename_i z hz
     simp only [Bool.and_eq_true, beq_iff_eq] at h
     exact ⟨i, z, hi, hz, fun c => Yzw h.1, h.2, by rw [h.2]; simp [Qx, hi], h.1⟩
   · cases h
 · cases h
end
section
variable {P : Program} {X : Out} {s : St} {mu : Nat → Option Nat} {ka : Nat → Nat} {cst : List (List Value)} {act : Act} {w : World} {E : Env} {fr : Nat} {o : Oper} {p : AV × List Eff} {K : Act → World → Prop} {Q : Exit → Act → World → Prop}
theorem yl {id : Nat} {b : Bool} (h : s.view.fresh id = b) (hb : b = true) : Zz id s.mem = none := by
 subst hb
 unfold View.fresh St.view at h
 simp only at h
 cases hf : Zz id s.mem with
 | none => rfl
 | some ob => rw [hf] at h; simp at h
theorem Q6 (s : St) (dst : Option Nat) (v : AV) (id : Nat) (ob : Ob) : s.app dst (v, [.new id ob]) = ({ s with mem := (id, ob) :: s.mem }.put dst v) := by
 cases dst <;> rfl
theorem Zzn (h : Rel E.P X s mu ka cst act.tmps.toList w) {t : Nat} (ho : o.op = .alloc t) (hp : (evOp E fr o).val s.view = some p) (hK : Next E.P X (s.app o.dst p) cst act K) : o.wp E.P act w K Q := by
 simp only [evOp, ho, Rd.val] at hp
 obtain ⟨hg, hp⟩ := Qy hp
 simp only [Bool.and_eq_true] at hg
 simp only [Rd.val, Option.some.injEq] at hp
 subst hp
 have hf := yl rfl hg.1
 obtain ⟨i, z, hi, hz, hv, _⟩ := yf hg.2
 obtain ⟨mu', ka', h1, h2, h3⟩ := h.newBox hf rfl h.bel t (hv _)
 rw [Q6] at hK
 refine Qo (u := .pointer (some ⟨w.heap.size, 0, none⟩)) ?_ h3 ?_ hK
 · simp [execOp, ho, Instr.alloc, zeroValue, typeInfo, hi, hz, newVar, newRow]
 · simp only [VA]
   exact ⟨_, h1, rfl⟩
theorem YzL (h : Rel E.P X s mu ka cst act.tmps.toList w) {t : Nat} {x : Operand} (ho : o.op = .box t x) (hp : (evOp E fr o).val s.view = some p) (hK : Next E.P X (s.app o.dst p) cst act K) : o.wp E.P act w K Q := by
 simp only [evOp, ho] at hp
 obtain ⟨v, h1, hp⟩ := val_bind hp
 simp only [Rd.val] at hp
 obtain ⟨hg, hp⟩ := Qy hp
 simp only [Bool.and_eq_true] at hg
 simp only [Rd.val, Option.some.injEq] at hp
 subst hp
 have hf := yl rfl hg.1
 obtain ⟨hc, h1c⟩ := QL (h.op h1) hg.2
 obtain ⟨mu', ka', g1, g2, g3⟩ := h.newBox hf rfl h.bel t hc
 rw [Q6] at hK
 refine Qo (u := .pointer (some ⟨w.heap.size, 0, none⟩)) ?_ g3 ?_ hK
 · simp [execOp, ho, Instr.box, newVar, newRow]
 · simp only [VA]
   exact ⟨_, g1, rfl⟩
theorem Rel.rowCells (h : Rel P X s mu ka cst act.tmps.toList w) {id m t b : Nat} {xs : List (List PV)} (hf : Zz id s.mem = some (.row m t xs)) (hm : mu id = some b) :
 ∃ us, w.rangeAt b 0 us ∧ VPss P w (Smut P X.S0 s.mem mu) xs us ∧ (∀ e ∈ xs, cfs (jy P t) e) := by
 cases m with
 | zero =>
   rcases h.obs id _ hf with ⟨b', hb', h1, h2, h3, us, h4, h5⟩ | ⟨q, _⟩
   · rw [hm] at hb'; cases hb'
     refine ⟨us, ?_, h5, h1⟩
     rcases h4 with rfl | ⟨b2, o2, e, hr, _⟩
     · intro j v hv; simp at hv
     · cases e; exact hr
   · rw [hm] at q; cases q
 | succ m =>
   obtain ⟨h1, h2, h3, vs, h4, h5, h6, h7⟩ := h.rowAt hf hm
   refine ⟨_, fun j u hu => ?_, h7, h1⟩
   rw [cell_of_row w b (0 + j) vs t (0, 0) h4, Nat.zero_add]
   rw [List.getElem?_take] at hu
   split at hu
   · simpa using hu
   · cases hu
theorem Qzw {b o : Nat} {us : List Value} (h : w.rangeAt b o us) (k n : Nat) : w.rangeAt b (o + k) ((us.drop k).take n) := by
 intro j v hv
 rw [List.getElem?_take] at hv
 split at hv
 · rw [List.getElem?_drop] at hv
   rw [Nat.add_assoc]
   exact h (k + j) v hv
 · cases hv
theorem yQ (h : Rel E.P X s mu ka cst act.tmps.toList w) {t u i off b o0 : Nat} {xs : List (List PV)} {us : List Value} (hu : (E.P.underlying t).isSome = true) (hi : i < xs.length)
 (hc : ∀ e ∈ xs, cfs (jy E.P u) e) (hr : us = [] ∨ w.rangeAt b o0 us) (hv : VPss E.P w (Smut E.P X.S0 s.mem mu) xs us) {v0 : View}
 (hp : (ZzX.fromEl E.P t (etas (jy E.P u) (xs.getD i [])) off).val v0 = some p) :
 p.2 = [] ∧ ∃ v, (loadVar t ⟨b, o0 + i * (jy E.P u).length + off, none⟩).run E.P w = .ok v w ∧ VA E.P (cx E.P X s.mem mu ka w) p.1 v := by
 have he : xs.getD i [] = xs[i] := by rw [List.getD_eq_getElem?_getD, List.getElem?_eq_getElem hi]; rfl
 have hci := hc _ (List.getElem_mem hi)
 rw [he, Z5 hci] at hp
 obtain ⟨d, hd⟩ := Option.isSome_iff_exists.1 hu
 have hvi := hv.get (n := (jy E.P u).length) (fun e he => (hc e he).length) (List.getElem?_eq_getElem hi)
 have hsub := (hvi.drop off).take (Qx E.P t)
 have hrr : us = [] ∨ w.rangeAt b (o0 + i * (jy E.P u).length + off) (((((us.drop (i * (jy E.P u).length)).take (jy E.P u).length)).drop off).take (Qx E.P t)) := by
  rcases hr with hr | hr
  · exact .inl hr
  · refine .inr (Qzw (w := w) ?_ off (Qx E.P t))
    exact Qzw hr _ _
 unfold ZzX.fromEl at hp
 cases ha : jq E.P t with
 | true =>
   rw [ha] at hp
   simp only at hp
   obtain ⟨hls, hp⟩ := Qy hp
   obtain rfl := Zx hp
   have hl : ((xs[i].drop off).take (Qx E.P t)).length = Qx E.P t := by simpa using hls
   refine ⟨rfl, _, zQ hd ha (us := ((((us.drop (i * (jy E.P u).length)).take (jy E.P u).length)).drop off).take (Qx E.P t)) ?_ (by rw [hsub.length]; exact hl), ?_⟩
   · rcases hrr with rfl | hrr
     · intro j v hv; simp at hv
     · exact hrr
   · simp only [VA]
     exact ⟨_, rfl, VAs.mapPv hsub⟩
 | false =>
   rw [ha] at hp
   cases hcs : (xs[i].drop off).take (Qx E.P t) with
   | nil => rw [hcs] at hp; simp [Rd.val] at hp
   | cons c cs =>
     cases cs with
     | cons c2 cs => rw [hcs] at hp; simp [Rd.val] at hp
     | nil =>
       rw [hcs] at hp hsub
       obtain rfl := Zx hp
       simp only [VPs] at hsub
       obtain ⟨v, vs', hvv, hvc, rfl⟩ := hsub
       refine ⟨rfl, v, yg hd ha ?_, by simp only [VA]; exact hvc⟩
       rcases hrr with rfl | hrr
       · simp at hvv
       · have := hrr 0 v (by rw [hvv]; rfl)
         simpa using this
theorem J6 {k : IntKind} {cs : List AV} : ∀ {offs : List Nat} {ns : List Int}, qX k cs offs = some ns → ∀ (j i : Nat) {o : Nat}, offs[i]? = some o → ∃ n, cs[o]? = some (.pv (.int k n)) ∧ yzN (j + i) j ns = n
 | [], _, _, _, _, _, h => by simp at h
 | o :: os, ns, hn, j, i, o', h => by
   unfold qX at hn
   split at hn
   · rename_i k' n r h1 h2
     split at hn
     · rename_i hd
       obtain rfl := of_decide_eq_true hd
       cases hn
       cases i with
       | zero =>
         simp only [List.getElem?_cons_zero, Option.some.injEq] at h
         subst h
         exact ⟨n, h1, by simp [yzN]⟩
       | succ i =>
         obtain ⟨m, g1, g2⟩ := J6 h2 (j + 1) i (o := o') (by simpa using h)
         refine ⟨m, g1, ?_⟩
         simp only [yzN]
         rw [decide_eq_false (by omega), cond_false, ← g2, show j + (i + 1) = j + 1 + i by omega]
     · cases hn
   · cases hn
theorem yS (h : Rel E.P X s mu ka cst act.tmps.toList w) {t : Nat} {a : AV} {u : Value} (hp : (ZzX E.P t a).val s.view = some p) (hu : VA E.P (cx E.P X s.mem mu ka w) a u) :
 p.2 = [] ∧ ∃ v, (Instr.loadAt t u).run E.P w = .ok v w ∧ VA E.P (cx E.P X s.mem mu ka w) p.1 v := by
 unfold ZzX at hp
 obtain ⟨hs, hp2⟩ := Qy hp
 clear hp
 have hp := hp2
 clear hp2
 obtain ⟨d, hd⟩ := Option.isSome_iff_exists.1 hs
 have at_ : ∀ {ad : Addr} {r}, u = .pointer (some ad) → (loadVar t ad).run E.P w = r → (Instr.loadAt t u).run E.P w = r := by
  intro ad r e hr
  subst e
  simp [Instr.loadAt, Instr.sureAddr, hr]
 split at hp
 · rename_i id off
   simp only [VA] at hu
   obtain ⟨b, hb, hu⟩ := hu
   simp only [Rd.val, View.rng, St.view] at hp
   cases hf : Zz id s.mem with
   | none => rw [hf] at hp; simp [Rd.val] at hp
   | some ob =>
     cases ob with
     | row m t' xs => rw [hf] at hp; simp [Rd.val] at hp
     | chan q => rw [hf] at hp; simp [Rd.val] at hp
     | box cs =>
       rw [hf] at hp
       simp only at hp
       rcases h.obs id _ hf with ⟨b', hb', T, vs, hg, hvs⟩ | ⟨q, _⟩
       case inr =>
        have hb2 : mu id = some b := hb
        rw [hb2] at q; cases q
       have hb2 : mu id = some b := hb
       rw [hb2] at hb'; cases hb'
       split at hp
       · rename_i x cs' hx
         split at hx
         · rename_i hfit
           cases hx
           have hsub := (hvs.drop off).take (Qx E.P t)
           have hrng : w.rangeAt b off ((vs.toList.drop off).take (Qx E.P t)) := by
            intro j v hv
            rw [List.getElem?_take] at hv
            split at hv
            · rw [List.getElem?_drop] at hv
              rw [cell_of_row w b (off + j) vs T (0, 0) hg]
              simpa using hv
            · cases hv
           cases ha : jq E.P t with
           | true =>
             rw [ha] at hp
             simp only at hp
             obtain rfl := Zx hp
             refine ⟨rfl, _, at_ hu (zQ hd ha hrng ?_), ?_⟩
             · rw [hsub.length]; simp only [List.length_take, List.length_drop]; omega
             · simp only [VA]; exact ⟨_, rfl, hsub⟩
           | false =>
             rw [ha] at hp
             cases hcs : (cs.drop off).take (Qx E.P t) with
             | nil => rw [hcs] at hp; simp [Rd.val] at hp
             | cons c cs2 =>
               cases cs2 with
               | cons c2 cs3 => rw [hcs] at hp; simp [Rd.val] at hp
               | nil =>
                 rw [hcs] at hp hsub
                 obtain rfl := Zx hp
                 simp only [VAs] at hsub
                 obtain ⟨v, vs', hvv, hvc, rfl⟩ := hsub
                 refine ⟨rfl, v, at_ hu (yg hd ha ?_), hvc⟩
                 have := hrng 0 v (by rw [hvv]; rfl)
                 simpa using this
         · cases hx
       · simp [Rd.val] at hp
 · rename_i u' xs i off
   simp only [VA] at hu
   obtain ⟨b, o0, us, hc, hi, hl, hv, hu⟩ := hu
   obtain ⟨g1, v, g2, g3⟩ := yQ (b := b) (o0 := o0) h hs hi hc (hl.imp id fun ⟨b2, o2, e, hr, _⟩ => by cases e; exact hr) hv hp
   exact ⟨g1, v, at_ hu g2, g3⟩
 · rename_i id i off
   simp only [VA] at hu
   obtain ⟨b, t', n, hb, hrt, hi, hu⟩ := hu
   simp only [Rd.val, View.row, St.view] at hp
   cases hf : Zz id s.mem with
   | none => rw [hf] at hp; simp [Rd.val] at hp
   | some ob =>
     cases ob with
     | box cs => rw [hf] at hp; simp [Rd.val] at hp
     | chan q => rw [hf] at hp; simp [Rd.val] at hp
     | row m u' xs =>
       rw [hf] at hp
       simp only at hp
       have hrt' : rtOf s.mem id = some (t', n) := hrt
       rw [Jn hf] at hrt'
       cases hrt'
       obtain ⟨us, hr, hv, hc⟩ := h.rowCells hf hb
       obtain ⟨g1, v, g2, g3⟩ := yQ (b := b) (o0 := 0) h hs hi hc (.inr hr) hv hp
       rw [Nat.zero_add] at g2
       exact ⟨g1, v, at_ hu g2, g3⟩
 · rename_i id offs i
   obtain ⟨ha, hp⟩ := Qy hp
   obtain rfl := Zx hp
   simp only [VA] at hu
   obtain ⟨b, b2, o, hb, hi, hl, hu⟩ := hu
   have ha' : jq E.P t = false := by simpa using ha
   rcases hl with hl | ⟨b3, o3, e, hr, _⟩
   · have := congrArg List.length hl
     simp only [List.length_map, List.length_nil] at this
     omega
   · cases e
     have hc := hr i (.pointer (some ⟨b, offs[i], none⟩)) (by rw [List.getElem?_map, List.getElem?_eq_getElem hi]; rfl)
     refine ⟨rfl, _, at_ hu (yg hd ha' hc), ?_⟩
     simp only [VA]
     exact ⟨b, offs[i], hb, List.getElem?_eq_getElem hi, rfl⟩
 · rename_i id offs i
   obtain ⟨ha, hp⟩ := Qy hp
   have ha' : jq E.P t = false := by simpa using ha
   simp only [VA] at hu
   obtain ⟨b, o, hb, hi, hu⟩ := hu
   simp only [Rd.val, View.rng, St.view] at hp
   cases hf : Zz id s.mem with
   | none => rw [hf] at hp; simp [Rd.val] at hp
   | some ob =>
     cases ob with
     | row m t' xs => rw [hf] at hp; simp [Rd.val] at hp
     | chan q => rw [hf] at hp; simp [Rd.val] at hp
     | box cs =>
       rw [hf] at hp
       simp only at hp
       rcases h.obs id _ hf with ⟨b', hb', T, vs, hg, hvs⟩ | ⟨q, _⟩
       case inr =>
        have hb2 : mu id = some b := hb
        rw [hb2] at q; cases q
       have hb2 : mu id = some b := hb
       rw [hb2] at hb'; cases hb'
       split at hp
       · rename_i x ds hx
         split at hx
         · rename_i hfit
           cases hx
           split at hp
           · rename_i k hk
             split at hp
             · rename_i ns hns
               obtain rfl := Zx hp
               have hsub := (hvs.drop 0).take (Jh offs)
               obtain ⟨n, g1, g2⟩ := J6 hns 0 i hi
               rw [Nat.zero_add] at g2
               rw [g2]
               have hcell : vs.toList[o]? = some (.int k n) := by
                obtain ⟨v, k1, k2⟩ := hsub.get g1
                have k2 := Jo k2
                simp only [VP] at k2
                subst k2
                rw [List.getElem?_take] at k1
                split at k1
                · simpa using k1
                · cases k1
               refine ⟨rfl, .int k n, at_ hu (yg hd ha' ?_), by simp only [VA, VP]⟩
               rw [cell_of_row w b o vs T (0, 0) hg]
               simpa using hcell
             · simp [Rd.val] at hp
           · simp [Rd.val] at hp
         · cases hx
       · simp [Rd.val] at hp
 · simp [Rd.val] at hp
theorem qzW (h : Rel E.P X s mu ka cst act.tmps.toList w) {t : Nat} {x : Operand} (ho : o.op = .load t x) (hp : (evOp E fr o).val s.view = some p) (hK : Next E.P X (s.app o.dst p) cst act K) : o.wp E.P act w K Q := by
 simp only [evOp, ho] at hp
 obtain ⟨v, h1, hp⟩ := val_bind hp
 obtain ⟨g1, u, g2, g3⟩ := yS h hp (h.op h1)
 obtain ⟨p1, p2⟩ := p
 simp only at g1 g3
 subst g1
 exact yx h (by simp [execOp, ho, g2]) g3 hK
theorem JL (h : Rel E.P X s mu ka cst act.tmps.toList w) {t f : Nat} {x : Operand} (ho : o.op = .fieldAddr t x f) (hp : (evOp E fr o).val s.view = some p) (hK : Next E.P X (s.app o.dst p) cst act K) : o.wp E.P act w K Q := by
 simp only [evOp, ho] at hp
 obtain ⟨v, h1, hp⟩ := val_bind hp
 split at hp
 · rename_i off ft hft
   obtain ⟨hz, hp⟩ := Qy hp
   split at hp
   · rename_i v' hv'
     obtain rfl := Zx hp
     have hx := h.op h1
     unfold ZM at hft
     split at hft
     · rename_i fs hfs
       split at hft
       · rename_i fd hfd
         cases hft
         have hz' : Qx E.P fd.type ≠ 0 := by simpa using hz
         obtain ⟨i, hi⟩ : ∃ i, E.P.info? fd.type = some i := by
          cases hq : E.P.info? fd.type with
          | none => simp [Qx, hq] at hz'
          | some i => exact ⟨i, rfl⟩
         have run_ : ∀ {b o1 : Nat}, act.eval x = .pointer (some ⟨b, o1, none⟩) → (execOp act.eval o).run E.P w = .ok (.value (.pointer (some ⟨b, o1 + fd.offset, none⟩))) w := by
          intro b o1 e
          simp [execOp, ho, Instr.fieldAt, qu hfs, hfd, e, Instr.sureAddr, fieldPlace, Yj hi, hz', Addr.add_mid]
         cases v <;> simp only [qzN, Option.some.injEq, reduceCtorEq] at hv'
         case ptr id o1 =>
          subst hv'
          simp only [VA] at hx
          obtain ⟨b, hb, hx⟩ := hx
          exact yx h (run_ hx) (by simp only [VA]; exact ⟨b, hb, rfl⟩) hK
         case rpt id i o1 =>
          subst hv'
          simp only [VA] at hx
          obtain ⟨b, t', n, hb, hrt, hi, hx⟩ := hx
          exact yx h (run_ hx) (by simp only [VA]; exact ⟨b, t', n, hb, hrt, hi, by rw [Nat.add_assoc]⟩) hK
         case ept t' xs i o1 =>
          subst hv'
          simp only [VA] at hx
          obtain ⟨b, o0, us, g1, g2, g3, g4, hx⟩ := hx
          exact yx h (run_ hx) (by simp only [VA]; exact ⟨b, o0, us, g1, g2, g3, g4, by rw [Nat.add_assoc]⟩) hK
       · cases hft
     · cases hft
   · simp [Rd.val] at hp
 · simp [Rd.val] at hp
end
end Go.Proofs.YtgfnpgnfklcicaaGreatS
