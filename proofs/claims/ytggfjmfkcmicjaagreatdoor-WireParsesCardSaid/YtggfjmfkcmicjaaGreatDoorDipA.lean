/- Joined by program out of: Core1, Core2, Core3, Core4, Core5, Core6, Core7, Core8, Core9, Core10, Core11, Core12, Core13, Core14, Core15, Core16, Core17. -/
import Derived.Calls
import Derived.RowKit
import Derived.Below
import Derived.Laws.Cells
import Derived.Laws.CopyRow
import Derived.Laws.AppendOwn
import Derived.Lib.FrozenHead2
import Derived.Lib.OthersKept
import Derived.Lib.UnsafeStr
import Derived.Laws.Strings
import Derived.Laws.Entries
import Derived.Laws.Tables
import Derived.Laws.Slices
import Derived.Laws.Strings2
import Derived.Laws.Concat
import Derived.Laws.StructEq
import Derived.Laws.Externs
import Derived.Laws.Runes
import Derived.Laws.Cover4
import Derived.Laws.Cover1
import Derived.Laws.BytesArg
import Derived.Laws.IdiomStrings
set_option linter.all false
/- An ideal semantics of the model's code, part 1: ghost values and states, and an evaluator in continuation style. No program in it. -/
section
namespace Go.Dip
inductive PV where
  | any
  | gone
  | bool (b : Bool)
  | int (k : IntKind) (n : Int)
  | str (s : List UInt8)
  | agg (cs : List PV)
  | sl (c : Nat) (es : List PV)
  | fn (f : FuncId)
  | nilp
  | nilif
  | someif
instance : Inhabited PV := ⟨.any⟩
def PV.cnt : PV → Nat
  | .any => 0
  | .gone => 0
  | .agg cs => cs.length
  | _ => 1
def PV.cells : PV → List PV
  | .agg cs => cs
  | v => [v]
def PV.isAgg (n : Nat) : PV → Bool
  | .agg cs => cs.length == n
  | _ => false
def PV.isOne : PV → Bool
  | .any => false
  | .gone => false
  | .agg _ => false
  | _ => true
def pcell (e : PV) (j : Nat) : PV := e.cells.getD j .any
def pat (es : List PV) (i : Int) : PV := es.getD i.toNat .any
def isInt (k : IntKind) : PV → Bool
  | .int k' _ => decide (k' = k)
  | _ => false
def intOf : PV → Int
  | .int _ n => n
  | _ => 0
def isStr : PV → Bool
  | .str _ => true
  | _ => false
def strOf : PV → List UInt8
  | .str s => s
  | _ => []
def isBool : PV → Bool
  | .bool _ => true
  | _ => false
def boolOf : PV → Bool
  | .bool b => b
  | _ => false
def isSl (c : Nat) : PV → Bool
  | .sl c' _ => Nat.beq c' c
  | _ => false
def slOf : PV → List PV
  | .sl _ es => es
  | _ => []
inductive CV where
  | p (v : PV)
  | nils (c : Nat)
  | orow (r : Nat)
  | osub (r : Nat) (lo hi : Int)
  | ptr (r : Nat) (off : Nat)
  | ptrE (r : Nat) (i : Int) (off : Nat)
  | iptr (c : Nat) (es : List PV) (i : Int) (off : Nat)
  | fn (f : FuncId) (rs : List Nat)
  | glob (g : Nat)
instance : Inhabited CV := ⟨.p .any⟩
inductive GV where
  | c (v : CV)
  | agg (cs : List CV)
  | tup (vs : List CV)
instance : Inhabited GV := ⟨.c (.p .any)⟩
abbrev GV.any : GV := .c (.p .any)
abbrev GV.pv (v : PV) : GV := .c (.p v)
inductive Ob where
  | box (cs : List CV)
  | row (e : TypeId) (es : List PV)
  | bld (s : List UInt8)
instance : Inhabited Ob := ⟨.box []⟩
def look {α : Type} : List (Nat × α) → Nat → Option α
  | [], _ => none
  | x :: l, i => bif Nat.beq i x.1 then some x.2 else look l i
def drop {α : Type} (i : Nat) : List (Nat × α) → List (Nat × α)
  | [] => []
  | x :: l => bif Nat.beq i x.1 then drop i l else x :: drop i l
structure St where
  t : List (Nat × GV)
  h : List (Nat × Ob)
def St.get (st : St) (i : Nat) : GV := (look st.t i).getD .any
def St.put (st : St) (d : Option Nat) (v : GV) : St :=
  match d with
  | some d => { st with t := (d, v) :: st.t }
  | none => st
/-! References to an object, struck or told as what is only read. -/
def CV.strike (r : Nat) : CV → CV
  | .orow q => bif Nat.beq q r then .p .any else .orow q
  | .osub q a b => bif Nat.beq q r then .p .any else .osub q a b
  | .ptr q o => bif Nat.beq q r then .p .any else .ptr q o
  | .ptrE q i o => bif Nat.beq q r then .p .any else .ptrE q i o
  | .fn f rs => bif rs.any (Nat.beq r ·) then .p .any else .fn f rs
  | v => v
def GV.map (f : CV → CV) : GV → GV
  | .c v => .c (f v)
  | .agg cs => .agg (cs.map f)
  | .tup cs => .tup (cs.map f)
def Ob.map (f : CV → CV) : Ob → Ob
  | .box cs => .box (cs.map f)
  | o => o
def St.map (f : CV → CV) (st : St) : St :=
  { t := st.t.map fun x => (x.1, x.2.map f), h := st.h.map fun x => (x.1, x.2.map f) }
def St.strike (r : Nat) (st : St) : St := St.map (CV.strike r) { st with h := drop r st.h }
def sub {α : Type} (es : List α) (lo hi : Int) : List α := (es.drop lo.toNat).take (hi - lo).toNat
def CV.thaw (r c : Nat) (es : List PV) : CV → CV
  | .orow q => bif Nat.beq q r then .p (.sl c es) else .orow q
  | .osub q a b => bif Nat.beq q r then .p (.sl c (sub es a b)) else .osub q a b
  | .ptrE q i o => bif Nat.beq q r then .iptr c es i o else .ptrE q i o
  | v => v
def CV.rows : CV → List Nat
  | .orow r => [r]
  | .osub r _ _ => [r]
  | .ptrE r _ _ => [r]
  | _ => []
def GV.rows : GV → List Nat
  | .c v => v.rows
  | .agg cs => cs.flatMap CV.rows
  | .tup cs => cs.flatMap CV.rows
def CV.pure? : CV → Option PV
  | .p v => some v
  | .nils c => some (.sl c [])
  | .fn f [] => some (.fn f)
  | _ => none
def pures : List CV → Option (List PV)
  | [] => some []
  | v :: l => match v.pure?, pures l with
    | some x, some xs => some (x :: xs)
    | _, _ => none
def GV.pure? : GV → Option PV
  | .c v => v.pure?
  | .agg cs => (pures cs).map .agg
  | .tup _ => none
def allP : List CV → Option (List PV)
  | [] => some []
  | .p v :: l => match allP l with
    | some xs => some (v :: xs)
    | none => none
  | _ :: _ => none
def mkAgg (cs : List CV) : GV :=
  match allP cs with
  | some ps => .c (.p (.agg ps))
  | none => .agg cs
/-! Types, as far as the evaluator asks. -/
inductive TK where
  | int (k : IntKind)
  | bool
  | str
  | slice (e : TypeId)
  | ptr (e : TypeId)
  | struct (fs : List (Nat × TypeId))
  | iface
  | fn
  | bld
  | other
structure Env where
  ty : TypeId → TK
  sz : TypeId → Nat
  by_ : TypeId → Nat
  tb : TypeId
def St.freeze (E : Env) (r : Nat) (st : St) : St :=
  match look st.h r with
  | some (.row e es) => bif Nat.beq e E.tb then st else St.map (CV.thaw r (E.sz e) es) { st with h := drop r st.h }
  | _ => st
def St.freezeAll (E : Env) (rs : List Nat) (st : St) : St := rs.foldl (fun st r => st.freeze E r) st
def Ob.isBld : Ob → Bool
  | .bld _ => true
  | _ => false
def Ob.isByte (E : Env) : Ob → Bool
  | .row e _ => Nat.beq e E.tb
  | _ => false
def okNew (E : Env) (h : List (Nat × Ob)) (o : Ob) : Bool :=
  bif o.isBld then h.all fun x => !x.2.isBld && !x.2.isByte E else bif o.isByte E then h.all fun x => !x.2.isBld else true
def okHeap (E : Env) : List (Nat × Ob) → Bool
  | [] => true
  | x :: l => okNew E l x.2 && okHeap E l
def Env.elem (E : Env) (t : TypeId) : TypeId := match E.ty t with | .slice e => e | .ptr e => e | _ => 0
def isStruct : TK → Bool
  | .struct _ => true
  | _ => false
def isScalar : TK → Bool
  | .struct _ => false
  | .bld => false
  | .other => false
  | _ => true
def zeroOf (E : Env) : Nat → TypeId → List CV
  | 0, _ => []
  | d + 1, t => match E.ty t with
    | .int k => [.p (.int k 0)]
    | .bool => [.p (.bool false)]
    | .str => [.p (.str [])]
    | .slice e => [.nils (E.sz e)]
    | .ptr _ => [.p .nilp]
    | .iface => [.p .nilif]
    | .struct fs => fs.flatMap fun f => zeroOf E d f.2
    | _ => [.p .any]
def LIM : Nat := 1099511627776
inductive Callee (R : Type) where
  | pure (f : List PV → (GV → Option R) → Option R)
  | heap (f : List GV → List (Nat × Ob) → (GV → List (Nat × Ob) → Option R) → Option R)
section ops
variable {R : Type}
def ofConst : Value → GV
  | .bool b => .pv (.bool b)
  | .int k n => .pv (.int k n)
  | .string s => .pv (.str s.data.toList)
  | .pointer none => .pv .nilp
  | .nilIface => .pv .nilif
  | _ => .any
def St.ev (st : St) : Operand → GV
  | .tmp t => st.get t
  | .const v => ofConst v
  | .func f => .c (.fn f [])
  | .global g => .c (.glob g)
def St.evT (E : Env) (st : St) (t : TypeId) : Operand → GV
  | .const (.slice none 0 0) => .c (.nils (E.sz (E.elem t)))
  | x => st.ev x
def wP (v : GV) (K : PV → Option R) : Option R := match v with | .c (.p x) => K x | _ => none
def wInt (k : IntKind) (v : GV) (K : Int → Option R) : Option R := wP v fun x => bif isInt k x then K (intOf x) else none
def wStr (v : GV) (K : List UInt8 → Option R) : Option R := wP v fun x => bif isStr x then K (strOf x) else none
def wBool (v : GV) (K : Bool → Option R) : Option R := wP v fun x => bif isBool x then K (boolOf x) else none
def wPure (E : Env) (st : St) (t : TypeId) (x : Operand) (K : PV → St → Option R) : Option R :=
  let st' := st.freezeAll E (st.evT E t x).rows
  match (st'.evT E t x).pure? with
  | some v => K v st'
  | none => none
def wPures (E : Env) : St → List (TypeId × Operand) → List PV → (List PV → St → Option R) → Option R
  | st, [], acc, K => K acc.reverse st
  | st, x :: l, acc, K => wPure E st x.1 x.2 fun v st => wPures E st l (v :: acc) K
def wCells (E : Env) (t : TypeId) (v : GV) (K : List CV → Option R) : Option R :=
  bif isStruct (E.ty t) then
    match v with
    | .c (.p x) => bif x.isAgg (E.sz t) then K ((List.range (E.sz t)).map fun j => .p (pcell x j)) else none
    | .agg cs => bif Nat.beq cs.length (E.sz t) then K cs else none
    | _ => none
  else bif isScalar (E.ty t) then
    match v with
    | .c (.p x) => bif x.isOne then K [.p x] else none
    | .c v => K [v]
    | _ => none
  else none
def wPCells (E : Env) (t : TypeId) (x : PV) (K : List PV → Option R) : Option R :=
  bif isStruct (E.ty t) then bif x.isAgg (E.sz t) then K ((List.range (E.sz t)).map fun j => pcell x j) else none
  else bif isScalar (E.ty t) && x.isOne then K [x] else none
def wElem (E : Env) (t : TypeId) (x : PV) (K : PV → Option R) : Option R :=
  bif isStruct (E.ty t) then bif x.isAgg (E.sz t) then K x else none
  else bif isScalar (E.ty t) && x.isOne then K x else none
def splice {α : Type} (cs : List α) (off : Nat) (xs : List α) : List α := cs.take off ++ xs ++ cs.drop (off + xs.length)
def readP (E : Env) (t : TypeId) (c : Nat) (e : PV) (off : Nat) (K : GV → Option R) : Option R :=
  bif isStruct (E.ty t) then
    bif Nat.ble (off + E.sz t) c then K (.pv (.agg ((List.range (E.sz t)).map fun j => pcell e (off + j)))) else none
  else bif isScalar (E.ty t) && Nat.blt off c then K (.pv (pcell e off)) else none
def fieldOff (E : Env) (s : TypeId) (f : Nat) (K : Nat → TypeId → Option R) : Option R :=
  match E.ty s with
  | .struct fs => match fs[f]? with
    | some x => K x.1 x.2
    | none => none
  | _ => none
def cmpI (op : BinOp) (a b : Int) : Option Bool :=
  match op with
  | .eql => some (decide (a = b))
  | .neq => some (!decide (a = b))
  | .lss => some (decide (a < b))
  | .leq => some (decide (a ≤ b))
  | .gtr => some (decide (a > b))
  | .geq => some (decide (a ≥ b))
  | _ => none
def arI (op : BinOp) (k : IntKind) (a b : Int) : Option Int :=
  match op with
  | .add => some (k.wrap (a + b))
  | .sub => some (k.wrap (a - b))
  | .mul => some (k.wrap (a * b))
  | .and => some (k.wrap (BitVec.ofInt k.bits a &&& BitVec.ofInt k.bits b).toNat)
  | .or => some (k.wrap (BitVec.ofInt k.bits a ||| BitVec.ofInt k.bits b).toNat)
  | .xor => some (k.wrap (BitVec.ofInt k.bits a ^^^ BitVec.ofInt k.bits b).toNat)
  | _ => none
def cmpS (op : BinOp) (a b : List UInt8) : Option Bool :=
  match op with
  | .eql => some (decide (a = b))
  | .neq => some (!decide (a = b))
  | .lss => some (Op.bytesLess a b)
  | .leq => some (Op.bytesLess a b || decide (a = b))
  | .gtr => some (!(Op.bytesLess a b || decide (a = b)))
  | .geq => some (!Op.bytesLess a b)
  | _ => none
def wBool? (b : Option Bool) (K : GV → Option R) : Option R := match b with | some b => K (.pv (.bool b)) | none => none
def wEq (E : Env) : List (Nat × TypeId) → PV → PV → (Bool → Option R) → Option R
  | [], _, _, K => K true
  | f :: fs, x, y, K => match E.ty f.2 with
    | .str => wStr (.pv (pcell x f.1)) fun a => wStr (.pv (pcell y f.1)) fun b => wEq E fs x y fun z => K (decide (a = b) && z)
    | .int k => wInt k (.pv (pcell x f.1)) fun a => wInt k (.pv (pcell y f.1)) fun b => wEq E fs x y fun z => K (decide (a = b) && z)
    | .bool => wBool (.pv (pcell x f.1)) fun a => wBool (.pv (pcell y f.1)) fun b => wEq E fs x y fun z => K ((a == b) && z)
    | _ => none
def nilP : GV → Option Bool
  | .c (.p .nilp) => some true
  | .c (.ptr _ _) => some false
  | .c (.ptrE _ _ _) => some false
  | .c (.iptr _ _ _ _) => some false
  | _ => none
def isIf : PV → Bool
  | .nilif => true
  | .someif => true
  | _ => false
def isNif : PV → Bool
  | .nilif => true
  | _ => false
def isConst : Operand → Bool
  | .const _ => true
  | _ => false
def wNil (op : BinOp) (x y : Option Bool) (K : GV → Option R) : Option R :=
  match x, y with
  | some a, some b => bif a || b then
      match op with
      | .eql => K (.pv (.bool (a && b)))
      | .neq => K (.pv (.bool (!(a && b))))
      | _ => none
    else none
  | _, _ => none
def evBin (E : Env) (st : St) (op : BinOp) (t : TypeId) (x y : Operand) (K : GV → Option R) : Option R :=
  match E.ty t with
  | .int k => wInt k (st.ev x) fun a => wInt k (st.ev y) fun b =>
    match op with
    | .quo => bif decide (b = 0) then none else K (.pv (.int k (k.wrap (a.tdiv b))))
    | .rem => bif decide (b = 0) then none else K (.pv (.int k (a.tmod b)))
    | .add | .sub | .mul | .and | .or | .xor => match arI op k a b with
      | some r => K (.pv (.int k r))
      | none => none
    | _ => wBool? (cmpI op a b) K
  | .str => wStr (st.ev x) fun a => wStr (st.ev y) fun b =>
    match op with
    | .add => bif decide (a.length + b.length ≤ LIM) then K (.pv (.str (a ++ b))) else none
    | _ => wBool? (cmpS op a b) K
  | .bool => wBool (st.ev x) fun a => wBool (st.ev y) fun b =>
    match op with
    | .eql => K (.pv (.bool (a == b)))
    | .neq => K (.pv (.bool (!(a == b))))
    | _ => none
  | .struct fs => wP (st.ev x) fun a => wP (st.ev y) fun b => bif a.isAgg (E.sz t) && b.isAgg (E.sz t) then
      match op with
      | .eql => wEq E fs a b fun z => K (.pv (.bool z))
      | .neq => wEq E fs a b fun z => K (.pv (.bool (!z)))
      | _ => none
    else none
  | .ptr _ => wNil op (nilP (st.ev x)) (nilP (st.ev y)) K
  | .iface => bif isConst x || isConst y then wP (st.ev x) fun a => wP (st.ev y) fun b => bif isIf a && (isIf b && (isNif b || isNif a)) then
      match op with
      | .eql => K (.pv (.bool (isNif a && isNif b)))
      | .neq => K (.pv (.bool (!(isNif a && isNif b))))
      | _ => none
    else none
    else none
  | _ => none
def setOb (r : Nat) (o : Ob) (st : St) : St := { st with h := (r, o) :: drop r st.h }
def newOb (d : Nat) (o : Ob) (st : St) : St := { st with h := (d, o) :: st.h }
def wNew (E : Env) (d : Nat) (o : Ob) (st : St) (K : St → Option R) : Option R := bif okNew E st.h o then K (newOb d o st) else none
def moveRow (r : Nat) (o : Ob) (st : St) : St := newOb r o (st.strike r)
def evLoad (E : Env) (st : St) (t : TypeId) (a : GV) (K : GV → Option R) : Option R :=
  match a with
  | .c (.ptr r off) => match look st.h r with
    | some (.box cs) =>
      bif isStruct (E.ty t) then bif Nat.ble (off + E.sz t) cs.length then K (mkAgg ((cs.drop off).take (E.sz t))) else none
      else bif isScalar (E.ty t) then match cs[off]? with
        | some v => K (.c v)
        | none => none
      else none
    | _ => none
  | .c (.ptrE r i off) => match look st.h r with
    | some (.row e es) => readP E t (E.sz e) (pat es i) off K
    | _ => none
  | .c (.iptr c es i off) => readP E t c (pat es i) off K
  | _ => none
def evStore (E : Env) (st : St) (t : TypeId) (a : GV) (x : Operand) (K : St → Option R) : Option R :=
  match a with
  | .c (.ptr r off) => match look st.h r with
    | some (.box cs) => wCells E t (st.evT E t x) fun xs => bif Nat.ble (off + xs.length) cs.length then K (setOb r (.box (splice cs off xs)) st) else none
    | _ => none
  | .c (.ptrE r i off) => wPure E st t x fun v st => match look st.h r with
    | some (.row e es) =>
      bif isStruct (E.ty t) && (Nat.beq off 0 && Nat.beq (E.sz t) (E.sz e)) then wElem E t v fun v => K (setOb r (.row e (es.set i.toNat v)) st)
      else bif isStruct (E.ty e) then wPCells E t v fun xs => bif Nat.ble (off + xs.length) (E.sz e) && (pat es i).isAgg (E.sz e) then
        K (setOb r (.row e (es.set i.toNat (.agg (splice (pat es i).cells off xs)))) st) else none
      else bif isScalar (E.ty e) && (isScalar (E.ty t) && (Nat.beq off 0 && v.isOne)) then K (setOb r (.row e (es.set i.toNat v)) st) else none
    | _ => none
  | _ => none
def wBuild (E : Env) (st : St) (fs : List (Nat × TypeId)) : List (Nat × Operand) → List CV → (List CV → Option R) → Option R
  | [], cs, K => K cs
  | x :: l, cs, K => match fs[x.1]? with
    | some f => wCells E f.2 (st.evT E f.2 x.2) fun xs => wBuild E st fs l (splice cs f.1 xs) K
    | none => none
def wParts (E : Env) (e : TypeId) : St → List (Nat × Operand) → Nat → List PV → (List PV → St → Option R) → Option R
  | st, [], n, acc, K => bif Nat.beq n 0 then K acc.reverse st else none
  | st, x :: l, n, acc, K => bif Nat.beq x.1 acc.length then
      match n with
      | 0 => none
      | n + 1 => wPure E st e x.2 fun v st => wElem E e v fun v => wParts E e st l n (v :: acc) K
    else none
def runesOf (s : List UInt8) : List PV := (Conv.runesFrom ⟨s.toArray⟩ s.length 0 #[]).toList.map fun v => match v with | .int _ n => .int .i32 n | _ => .any
def ofRunes (es : List PV) : List UInt8 := es.flatMap fun v => (Utf8.encode (intOf v)).data.toList
def ofBytes (es : List PV) : List UInt8 := es.map fun v => UInt8.ofNat (intOf v).toNat
def wSl (E : Env) (c : Nat) (st : St) (v : GV) (K : List PV → Option R) : Option R :=
  match v with
  | .c (.p x) => bif isSl c x then K (slOf x) else none
  | .c (.nils _) => K []
  | .c (.orow r) => match look st.h r with
    | some (.row e es) => bif Nat.beq (E.sz e) c then K es else none
    | _ => none
  | .c (.osub r lo hi) => match look st.h r with
    | some (.row e es) => bif Nat.beq (E.sz e) c then K (sub es lo hi) else none
    | _ => none
  | _ => none
def evConv (E : Env) (d : Nat) (st : St) (s t : TypeId) (x : Operand) (K : GV → St → Option R) : Option R :=
  match E.ty s, E.ty t with
  | .int ks, .int k => wInt ks (st.ev x) fun n => K (.pv (.int k (k.wrap n))) st
  | .str, .str => wStr (st.ev x) fun a => K (.pv (.str a)) st
  | .int ks, .str => wInt ks (st.ev x) fun n => K (.pv (.str (Utf8.encode n).data.toList)) st
  | .str, .slice e => match E.ty e with
    | .int .i32 => wStr (st.ev x) fun a => bif decide (a.length ≤ LIM) then wNew E d (.row e (runesOf a)) (st.strike d) fun st => K (.c (.orow d)) st else none
    | _ => none
  | .slice e, .str => match E.ty e with
    | .int .i32 => wSl E 1 st (st.ev x) fun es => bif es.all (isInt .i32) then K (.pv (.str (ofRunes es))) st else none
    | .int .u8 => wSl E 1 st (st.ev x) fun es => bif es.all (isInt .u8) then K (.pv (.str (ofBytes es))) st else none
    | _ => none
  | _, _ => none
def wOptInt (st : St) (x : Option Operand) (z : Int) (K : Int → Option R) : Option R :=
  match x with
  | none => K z
  | some x => wInt .i64 (st.ev x) K
def inR (l h n : Int) : Bool := decide (0 ≤ l) && (decide (l ≤ h) && decide (h ≤ n))
def evSlice (E : Env) (st : St) (t : TypeId) (x : Operand) (lo hi : Option Operand) (K : GV → Option R) : Option R :=
  match E.ty t with
  | .str => wStr (st.ev x) fun s => wOptInt st lo 0 fun l => wOptInt st hi s.length fun h =>
      bif inR l h s.length then K (.pv (.str (sub s l h))) else none
  | .slice e => match st.ev x with
    | .c (.p v) => bif isSl (E.sz e) v then wOptInt st lo 0 fun l => wOptInt st hi (slOf v).length fun h =>
        bif inR l h (slOf v).length then K (.pv (.sl (E.sz e) (sub (slOf v) l h))) else none
      else none
    | .c (.orow r) => match look st.h r with
      | some (.row e' es) => bif Nat.beq (E.sz e') (E.sz e) then wOptInt st lo 0 fun l => wOptInt st hi es.length fun h =>
          bif inR l h es.length then K (.c (.osub r l h)) else none
        else none
      | _ => none
    | _ => none
  | _ => none
def evAddr (E : Env) (st : St) (s : TypeId) (f : Nat) (v : GV) (K : GV → Option R) : Option R :=
  fieldOff E s f fun fo _ => match v with
    | .c (.ptr r off) => match look st.h r with
      | some (.box _) => K (.c (.ptr r (off + fo)))
      | _ => none
    | .c (.ptrE r i off) => K (.c (.ptrE r i (off + fo)))
    | .c (.iptr c es i off) => K (.c (.iptr c es i (off + fo)))
    | _ => none
def evField (E : Env) (s : TypeId) (f : Nat) (v : GV) (K : GV → Option R) : Option R :=
  fieldOff E s f fun fo ft => match v with
    | .c (.p x) => bif x.isAgg (E.sz s) then
        bif isStruct (E.ty ft) then K (.pv (.agg ((List.range (E.sz ft)).map fun j => pcell x (fo + j)))) else bif isScalar (E.ty ft) then K (.pv (pcell x fo)) else none
      else none
    | .agg cs => bif isStruct (E.ty ft) then bif Nat.ble (fo + E.sz ft) cs.length then K (mkAgg ((cs.drop fo).take (E.sz ft))) else none
      else bif isScalar (E.ty ft) then match cs[fo]? with
        | some v => K (.c v)
        | none => none
      else none
    | _ => none
def inI (i n : Int) : Bool := decide (0 ≤ i) && decide (i < n)
def evIndexAddr (E : Env) (st : St) (t : TypeId) (x i : Operand) (K : GV → Option R) : Option R :=
  match E.ty t with
  | .slice e => wInt .i64 (st.ev i) fun i => match st.ev x with
    | .c (.p v) => bif isSl (E.sz e) v && inI i (slOf v).length then K (.c (.iptr (E.sz e) (slOf v) i 0)) else none
    | .c (.orow r) => match look st.h r with
      | some (.row e' es) => bif Nat.beq (E.sz e') (E.sz e) && inI i es.length then K (.c (.ptrE r i 0)) else none
      | _ => none
    | .c (.osub r lo hi) => match look st.h r with
      | some (.row e' _) => bif Nat.beq (E.sz e') (E.sz e) && inI i (hi - lo) then K (.c (.ptrE r (lo + i) 0)) else none
      | _ => none
    | _ => none
  | _ => none
def evIndex (E : Env) (st : St) (t : TypeId) (x i : Operand) (K : GV → Option R) : Option R :=
  match E.ty t with
  | .str => wStr (st.ev x) fun s => wInt .i64 (st.ev i) fun i => bif inI i s.length then K (.pv (.int .u8 ((s.getD i.toNat 0).toNat : Int))) else none
  | _ => none
def evLen (E : Env) (st : St) (t : TypeId) (x : Operand) (K : GV → Option R) : Option R :=
  match E.ty t with
  | .str => wStr (st.ev x) fun s => K (.pv (.int .i64 (s.length : Int)))
  | .slice e => match st.evT E t x with
    | .c (.osub _ lo hi) => K (.pv (.int .i64 (hi - lo)))
    | v => wSl E (E.sz e) st v fun es => K (.pv (.int .i64 (es.length : Int)))
  | _ => none
def evAppend (E : Env) (d : Nat) (st : St) (t : TypeId) (s x : Operand) (xt : TypeId) (K : GV → St → Option R) : Option R :=
  match E.ty t, Nat.beq t xt with
  | .slice e, true => wSl E (E.sz e) st (st.evT E xt x) fun xs => match st.evT E t s with
    | .c (.orow r) => match look st.h r with
      | some (.row e' es) => bif Nat.beq e' e && decide (es.length + xs.length ≤ LIM) then K (.c (.orow r)) (moveRow r (.row e (es ++ xs)) st) else none
      | _ => none
    | .c (.nils _) => bif decide (xs.length ≤ LIM) then wNew E d (.row e xs) (st.strike d) fun st => K (.c (.orow d)) st else none
    | _ => none
  | _, _ => none
end ops
end Go.Dip
end
/- An ideal semantics of the model's code, part 2: operations, regions, code. -/
section
namespace Go.Dip
/-! Calls that may change objects. -/
def CV.keys : CV → List Nat
  | .orow r => [r]
  | .osub r _ _ => [r]
  | .ptr r _ => [r]
  | .ptrE r _ _ => [r]
  | .fn _ rs => rs
  | _ => []
def GV.keys : GV → List Nat
  | .c v => v.keys
  | .agg cs => cs.flatMap CV.keys
  | .tup cs => cs.flatMap CV.keys
def Ob.keys : Ob → List Nat
  | .box cs => cs.flatMap CV.keys
  | _ => []
def reach (h : List (Nat × Ob)) : Nat → List Nat → List Nat → List Nat
  | 0, _, seen => seen.reverse
  | _, [], seen => seen.reverse
  | n + 1, r :: l, seen => bif seen.any (Nat.beq r ·) then reach h n l seen else match look h r with
    | some o => reach h n (o.keys ++ l) (r :: seen)
    | none => reach h n l seen
def CV.ren (f : Nat → Nat) : CV → CV
  | .orow r => .orow (f r)
  | .osub r a b => .osub (f r) a b
  | .ptr r o => .ptr (f r) o
  | .ptrE r i o => .ptrE (f r) i o
  | .fn g rs => .fn g (rs.map f)
  | v => v
def pos (ks : List Nat) (r : Nat) : Nat := 1000 + ks.findIdx (Nat.beq r ·)
def oldKey (ks : List Nat) (q : Nat) : Bool := Nat.ble 1000 q && Nat.blt q (1000 + ks.length)
def back (d : Nat) (ks : List Nat) (q : Nat) : Nat := bif oldKey ks q then ks.getD (q - 1000) 0 else 2000 + q * 1000 + d
def isIn (ks : List Nat) (r : Nat) : Bool := ks.any (Nat.beq r ·)
def keysIn (ks l : List Nat) : Bool := l.all (isIn ks)
def distinct : List Nat → Bool
  | [] => true
  | x :: l => !isIn l x && distinct l
def hasOb (h : List (Nat × Ob)) (ks : List Nat) (r : Nat) : Bool := match look h r with
  | some o => keysIn ks o.keys
  | none => false
def rowAt (h : List (Nat × Ob)) (r : Nat) : Bool := match look h r with
  | some (.row _ _) => true
  | _ => false
def handed (h : List (Nat × Ob)) (ks : List Nat) : List Nat → List (Nat × Ob)
  | [] => []
  | r :: l => match look h r with
    | some o => (pos ks r, o.map (CV.ren (pos ks))) :: handed h ks l
    | none => handed h ks l
def strikeAll (ks : List Nat) (st : St) : St := ks.foldl (fun st r => st.strike r) st
def dropAll {α : Type} (ks : List Nat) (l : List (Nat × α)) : List (Nat × α) := ks.foldl (fun l r => drop r l) l
section
variable {R : Type}
def wArgs (E : Env) (st : St) : List (TypeId × Operand) → List GV
  | [] => []
  | x :: l => st.evT E x.1 x.2 :: wArgs E st l
def callHeap (E : Env) (d : Nat) (st : St) (args : List GV) (F : List GV → List (Nat × Ob) → (GV → List (Nat × Ob) → Option R) → Option R) (K : GV → St → Option R) : Option R :=
  let ks := reach st.h 100 (args.flatMap GV.keys) []
  bif Nat.blt ks.length 1000 && (keysIn ks (args.flatMap GV.keys) && ks.all (hasOb st.h ks)) then
    F (args.map (GV.map (CV.ren (pos ks)))) (handed st.h ks ks) fun v H =>
      let f := back d ks
      let hk := H.map fun x => f x.1
      let kh := H.map fun x => x.1
      bif distinct hk && (keysIn kh v.keys && (H.all (fun x => keysIn kh x.2.keys) && H.all fun x => oldKey ks x.1 || !isIn ks (f x.1))) then
        let st1 := strikeAll ((H.filter fun x => !oldKey ks x.1).map (fun x => f x.1) ++ ks.filter (rowAt st.h)) { st with h := dropAll ks st.h }
        let h := (H.map fun x => (f x.1, x.2.map (CV.ren f))) ++ st1.h
        bif okHeap E h then K (v.map (CV.ren f)) { st1 with h := h } else none
      else none
  else none
def evMinMax (st : St) (mx : Bool) (t : TK) (xs : List Operand) (K : GV → Option R) : Option R :=
  match t, xs with
  | .int k, [x, y] => wInt k (st.ev x) fun a => wInt k (st.ev y) fun b => K (.pv (.int k (bif mx then max a b else min a b)))
  | .int k, [x, y, z] => wInt k (st.ev x) fun a => wInt k (st.ev y) fun b => wInt k (st.ev z) fun c => K (.pv (.int k (bif mx then max (max a b) c else min (min a b) c)))
  | _, _ => none
def allPtr : List GV → Option (List Nat)
  | [] => some []
  | .c (.ptr r 0) :: l => match allPtr l with
    | some rs => some (r :: rs)
    | none => none
  | _ :: _ => none
def ptrs (rs : List Nat) : List GV := rs.map fun r => .c (.ptr r 0)
def evCalm (E : Env) (ρ : FuncId → Option (Callee R)) (o : Oper) (st : St) (K : GV → Option R) : Option R :=
  match o.op with
  | .move x => K (st.evT E o.type x)
  | .assign x => match st.evT E o.type x with
    | .c (.nils _) => none
    | v => K v
  | .pick c a b => wBool (st.ev c) fun z => bif z then K (st.evT E o.type a) else K (st.evT E o.type b)
  | .build t parts => match E.ty t with
    | .struct fs => wBuild E st fs parts.toList (zeroOf E 6 t) fun cs => K (mkAgg cs)
    | _ => none
  | .load t a => evLoad E st t (st.ev a) K
  | .nilCheck x => match st.ev x with
    | .c (.ptr r o) => K (.c (.ptr r o))
    | .c (.ptrE r i o) => K (.c (.ptrE r i o))
    | .c (.iptr c es i o) => K (.c (.iptr c es i o))
    | _ => none
  | .binOp op t x y _ => evBin E st op t x y K
  | .unOp op t x => match op, E.ty t with
    | .not, _ => wBool (st.ev x) fun b => K (.pv (.bool (!b)))
    | .neg, .int k => wInt k (st.ev x) fun a => K (.pv (.int k (k.wrap (0 - a))))
    | _, _ => none
  | .convert s t x => match E.ty t with
    | .slice _ => none
    | _ => evConv E 0 st s t x fun v _ => K v
  | .makeFunc (.func f) first captured => bif Nat.beq first.size 0 then match allPtr (captured.toList.map st.ev) with
      | some rs => K (.c (.fn f rs))
      | none => none
    else none
  | .slice t x lo hi none => evSlice E st t x lo hi K
  | .fieldAddr s x f => evAddr E st s f (st.ev x) K
  | .field s x f => evField E s f (st.ev x) K
  | .indexAddr t x i => evIndexAddr E st t x i K
  | .index t x i => evIndex E st t x i K
  | .extract x i => match st.ev x with
    | .tup vs => match vs[i]? with
      | some v => K (.c v)
      | none => none
    | _ => none
  | .call { callee := .builtin .len, args, argTypes } => bif Nat.beq argTypes.size 1 && Nat.beq args.size 1 then evLen E st (argTypes.getD 0 0) (args.getD 0 (.const .nilIface)) K else none
  | .call { callee := .builtin .max, args, argTypes } => evMinMax st true (E.ty (argTypes.getD 0 0)) args.toList K
  | .call { callee := .builtin .min, args, argTypes } => evMinMax st false (E.ty (argTypes.getD 0 0)) args.toList K
  | .call { callee := .value f, args, argTypes } => match st.ev f with
    | .c (.fn g []) => match ρ g with
      | some (.pure F) => bif Nat.beq argTypes.size args.size then match GVs.pures (wArgs E st (argTypes.toList.zip args.toList)) with
          | some vs => F vs K
          | none => none
        else none
      | _ => none
    | _ => none
  | _ => none
where
  GVs.pures : List GV → Option (List PV)
    | [] => some []
    | v :: l => match v.pure?, GVs.pures l with
      | some x, some xs => some (x :: xs)
      | _, _ => none
def evOp (E : Env) (ρ : FuncId → Option (Callee R)) (o : Oper) (st : St) (K : GV → St → Option R) : Option R :=
  let d := o.dst.getD 0
  match o.op with
  | .assign x => match st.evT E o.type x with
    | .c (.nils _) => match E.ty o.type with
      | .slice e => wNew E d (.row e []) (st.strike d) fun st => K (.c (.orow d)) st
      | _ => none
    | v => K v st
  | .alloc t => match E.ty t with
    | .bld => wNew E d (.bld []) (st.strike d) fun st => K (.c (.ptr d 0)) st
    | k => bif !Nat.beq t E.tb && (isStruct k || isScalar k) then K (.c (.ptr d 0)) (newOb d (.box (zeroOf E 6 t)) (st.strike d)) else none
  | .box t x => let st' := st.strike d
    bif !Nat.beq t E.tb then wCells E t (st'.evT E t x) fun cs => K (.c (.ptr d 0)) (newOb d (.box cs) st') else none
  | .buildSlice t len parts => match E.ty t with
    | .slice e => bif Nat.ble (len * E.sz e) 16777216 then wParts E e st parts.toList len [] fun es st => wNew E d (.row e es) (st.strike d) fun st => K (.c (.orow d)) st else none
    | _ => none
  | .store t a x => evStore E st t (st.ev a) x fun st' => K .any st'
  | .convert s t x => evConv E d st s t x K
  | .call { callee := .builtin .append, args, argTypes } => bif Nat.beq argTypes.size 2 && Nat.beq args.size 2 then evAppend E d st (argTypes.getD 0 0) (args.getD 0 (.const .nilIface)) (args.getD 1 (.const .nilIface)) (argTypes.getD 1 0) K else none
  | .call { callee := .value f, args, argTypes } => bif Nat.beq argTypes.size args.size then match st.ev f with
    | .c (.fn g rs) => match ρ g with
      | some (.pure F) => match rs with
        | [] => wPures E st (argTypes.toList.zip args.toList) [] fun vs st' => F vs fun v => K v st'
        | _ => none
      | some (.heap F) => callHeap E d st (wArgs E st (argTypes.toList.zip args.toList) ++ ptrs rs) F K
      | none => none
    | _ => none
    else none
  | _ => evCalm E ρ o st fun v => K v st
def splitB (st : St) (x : Operand) (K : Bool → St → Option R) : Option R :=
  wBool (st.ev x) fun b => match x with
    | .tmp t => bif b then K true (st.put (some t) (.pv (.bool true))) else K false (st.put (some t) (.pv (.bool false)))
    | _ => bif b then K true st else K false st
def dstOf (all : List Oper) (j : Nat) : Option Tmp := match all[j]? with | some o => o.dst | none => none
def isUndef : GV → Bool
  | .c (.p .gone) => true
  | _ => false
def okDst (n : Nat) : Option Tmp → Bool
  | some d => Nat.blt d n && Nat.blt d 1000
  | none => true
def evOps (E : Env) (n : Nat) (ρ : FuncId → Option (Callee R)) (all : List Oper) : List Oper → St → (St → Option R) → Option R
  | [], st, K => K st
  | o :: l, st, K => bif okDst n o.dst then
      match o.guard with
      | none => evOp E ρ o st fun v st => evOps E n ρ all l (st.put o.dst v) K
      | some g => match dstOf all g.1 with
        | some t => match isUndef (st.get t) with
          | true => evOps E n ρ all l (st.put o.dst (.pv .gone)) K
          | false => splitB st (.tmp t) fun b st => match b == g.2 with
            | true => evOp E ρ o st fun v st => evOps E n ρ all l (st.put o.dst v) K
            | false => evOps E n ρ all l (st.put o.dst (.pv .gone)) K
        | none => none
    else none
end
structure Delta where
  zs : List Nat
  ds : List Nat
  add : List (Nat × Ob)
def Delta.none : Delta := ⟨[], [], []⟩
def Delta.app (D : Delta) (st : St) : St :=
  let s1 := strikeAll D.zs { st with h := dropAll D.ds st.h }
  { s1 with h := D.add ++ s1.h }
structure Rec where
  dst : Option Nat
  v : GV
  del : Delta
def Rec.upd (c : Rec) (st : St) : St := (c.del.app st).put c.dst c.v
def Rec.wr (c : Rec) : List Nat := c.del.zs ++ (c.del.ds ++ c.del.add.map fun x => x.1)
def Rec.said (c : Rec) : List Nat := c.v.keys ++ c.del.add.flatMap fun x => x.2.keys
/-! Regions that draw their order: each operation on what it reads alone; pairs that do not wait for one another must not meet. -/
def tmpsOf (l : List Operand) : List Tmp := l.filterMap fun x => match x with
  | .tmp t => some t
  | _ => none
def footT (st : St) : List Tmp → List (Nat × GV)
  | [] => []
  | t :: l => match look st.t t with
    | some v => (t, v) :: footT st l
    | none => footT st l
def footH (h : List (Nat × Ob)) : List Nat → List (Nat × Ob)
  | [] => []
  | r :: l => match look h r with
    | some o => (r, o) :: footH h l
    | none => footH h l
def foot (st : St) (ts : List Tmp) : St :=
  let t := footT st ts
  { t := t, h := footH st.h (reach st.h 100 (t.flatMap fun x => x.2.keys) []) }
def dstB (c d : Option Nat) : Bool := match c, d with
  | some i, some j => !Nat.beq i j
  | _, _ => true
def apartB (c d : Rec) : Bool := dstB c.dst d.dst && (c.wr.all (fun z => !isIn d.said z && !isIn d.wr z) && d.wr.all fun z => !isIn c.said z)
def freeB (c : Rec) (s : St) : Bool :=
  (match c.dst with
    | some i => (look s.t i).isNone
    | none => true) &&
  c.wr.all fun z => (look s.h z).isNone && (s.t.all (fun x => !isIn x.2.keys z) && s.h.all fun x => !isIn x.2.keys z)
def pairOk (c : Rec) (s : St) (d : Rec) (z : St) : Bool := apartB c d && (freeB c z && freeB d s)
def meetOk (p : Nat) (d : Rec) (z : St) : Nat → List (Rec × St) → Bool
  | _, [] => true
  | i, x :: l => (Nat.testBit p i || pairOk x.1 x.2 d z) && meetOk p d z (i + 1) l
def waitsFor (tab : List Nat) : List Edge → Nat
  | [] => 0
  | e :: l => bif Region.binds .any e then (1 <<< e.on) ||| (tab.getD e.on 0 ||| waitsFor tab l) else waitsFor tab l
def edgesOk (k : Nat) (l : List Edge) : Bool := l.all fun e => !Region.binds .any e || Nat.blt e.on k
section
variable {R : Type}
def sameBld (h : List (Nat × Ob)) (ks : List Nat) (x : Nat × Ob) : Bool := oldKey ks x.1 && (x.2.isBld && match look h (ks.getD (x.1 - 1000) 0) with
  | some o => o.isBld
  | none => false)
def plain (E : Env) (h : List (Nat × Ob)) (ks : List Nat) (H : List (Nat × Ob)) : Bool := H.all fun x => (!x.2.isBld && !x.2.isByte E) || sameBld h ks x
def wParts0 (E : Env) (e : TypeId) (s : St) : List (Nat × Operand) → Nat → List PV → (List PV → Option R) → Option R
  | [], n, acc, K => bif Nat.beq n 0 then K acc.reverse else none
  | x :: l, n, acc, K => bif Nat.beq x.1 acc.length then
      match n with
      | 0 => none
      | n + 1 => match (s.evT E e x.2).pure? with
        | some v => wElem E e v fun v => wParts0 E e s l n (v :: acc) K
        | none => none
    else none
def callRec (E : Env) (d : Nat) (s : St) (args : List GV) (F : List GV → List (Nat × Ob) → (GV → List (Nat × Ob) → Option R) → Option R) (K : GV → Delta → Option R) : Option R :=
  let ks := reach s.h 100 (args.flatMap GV.keys) []
  bif Nat.blt ks.length 1000 && (keysIn ks (args.flatMap GV.keys) && ks.all (hasOb s.h ks)) then
    F (args.map (GV.map (CV.ren (pos ks)))) (handed s.h ks ks) fun v H =>
      let f := back d ks
      let hk := H.map fun x => f x.1
      let kh := H.map fun x => x.1
      bif distinct hk && (keysIn kh v.keys && (H.all (fun x => keysIn kh x.2.keys) && H.all fun x => oldKey ks x.1 || !isIn ks (f x.1))) then
        bif plain E s.h ks H then K (v.map (CV.ren f)) ⟨(H.filter fun x => !oldKey ks x.1).map (fun x => f x.1) ++ ks.filter (rowAt s.h), ks, H.map fun x => (f x.1, x.2.map (CV.ren f))⟩ else none
      else none
  else none
def evRec (E : Env) (ρ : FuncId → Option (Callee R)) (o : Oper) (s : St) (K : GV → Delta → Option R) : Option R :=
  let d := o.dst.getD 0
  match o.op with
  | .assign x => match s.evT E o.type x with
    | .c (.nils _) => match E.ty o.type with
      | .slice e => bif Nat.beq e E.tb then none else K (.c (.orow d)) ⟨[d], [d], [(d, .row e [])]⟩
      | _ => none
    | v => K v .none
  | .alloc t => bif !Nat.beq t E.tb && (isStruct (E.ty t) || isScalar (E.ty t)) then K (.c (.ptr d 0)) ⟨[d], [d], [(d, .box (zeroOf E 6 t))]⟩ else none
  | .box t x => bif !Nat.beq t E.tb then wCells E t (s.evT E t x) fun cs => bif isIn (cs.flatMap CV.keys) d then none else K (.c (.ptr d 0)) ⟨[d], [d], [(d, .box cs)]⟩ else none
  | .buildSlice t len parts => match E.ty t with
    | .slice e => bif Nat.ble (len * E.sz e) 16777216 && !Nat.beq e E.tb then wParts0 E e s parts.toList len [] fun es => K (.c (.orow d)) ⟨[d], [d], [(d, .row e es)]⟩ else none
    | _ => none
  | .store t a x => match s.ev a with
    | .c (.ptr r off) => match look s.h r with
      | some (.box cs) => wCells E t (s.evT E t x) fun xs => bif Nat.ble (off + xs.length) cs.length then K .any ⟨[], [r], [(r, .box (splice cs off xs))]⟩ else none
      | _ => none
    | _ => none
  | .call { callee := .builtin .append, args, argTypes } => bif Nat.beq argTypes.size 2 && Nat.beq args.size 2 then
      match E.ty (argTypes.getD 0 0), Nat.beq (argTypes.getD 0 0) (argTypes.getD 1 0) with
      | .slice e, true => bif Nat.beq e E.tb then none else wSl E (E.sz e) s (s.evT E (argTypes.getD 1 0) (args.getD 1 (.const .nilIface))) fun xs => match s.evT E (argTypes.getD 0 0) (args.getD 0 (.const .nilIface)) with
        | .c (.orow r) => match look s.h r with
          | some (.row e' es) => bif Nat.beq e' e && decide (es.length + xs.length ≤ LIM) then K (.c (.orow r)) ⟨[r], [r], [(r, .row e (es ++ xs))]⟩ else none
          | _ => none
        | .c (.nils _) => bif decide (xs.length ≤ LIM) then K (.c (.orow d)) ⟨[d], [d], [(d, .row e xs)]⟩ else none
        | _ => none
      | _, _ => none
    else none
  | .call { callee := .value f, args, argTypes } => match s.ev f with
    | .c (.fn g rs) => match ρ g with
      | some (.heap F) => bif Nat.beq argTypes.size args.size then callRec E d s (wArgs E s (argTypes.toList.zip args.toList) ++ ptrs rs) F K else none
      | _ => evCalm E ρ o s fun v => K v .none
    | _ => none
  | _ => evCalm E ρ o s fun v => K v .none
def evDraw (E : Env) (n : Nat) (ρ : FuncId → Option (Callee R)) (all : List Oper) : List Oper → Nat → List Nat → St → List (Rec × St) → (St → Option R) → Option R
  | [], _, _, st, _, K => K st
  | o :: l, k, tab, st, recs, K => bif okDst n o.dst && edgesOk k o.after.toList then
      let p := waitsFor tab o.after.toList
      let go := fun (st : St) (c : Rec) (s : St) => bif meetOk p c s 0 recs then evDraw E n ρ all l (k + 1) (tab ++ [p]) (c.upd st) (recs ++ [(c, s)]) K else none
      match o.guard with
      | none => let s := foot st (tmpsOf o.op.operands.toList)
        evRec E ρ o s fun v D => go st ⟨o.dst, v, D⟩ s
      | some g => match dstOf all g.1 with
        | some t => match isUndef (st.get t) with
          | true => go st ⟨o.dst, .pv .gone, .none⟩ (foot st [t])
          | false => splitB st (.tmp t) fun b st => match b == g.2 with
            | true => let s := foot st (t :: tmpsOf o.op.operands.toList)
              evRec E ρ o s fun v D => go st ⟨o.dst, v, D⟩ s
            | false => go st ⟨o.dst, .pv .gone, .none⟩ (foot st [t])
        | none => none
    else none
def baseOf (all : List Oper) : Nat → Tmp → Tmp
  | 0, t => t
  | f + 1, t => match all.find? fun o => match o.dst with | some d => Nat.beq d t | none => false with
    | some o => match o.op with
      | .move (.tmp u) => baseOf all f u
      | _ => t
    | none => t
def argRows (ρ : FuncId → Option (Callee R)) (st : St) (all : List Oper) : List Nat := all.flatMap fun o => match o.op with
  | .call { callee := .value (.func g), args, .. } => match ρ g with
    | some (.pure _) => (tmpsOf args.toList).flatMap fun t => (st.get (baseOf all 8 t)).rows
    | _ => []
  | _ => []
def fr : Code → Nat
  | .region id _ _ => id
  | .seq a _ => fr a
  | .block _ c => fr c
  | .loop c => fr c
  | .scope c => fr c
  | .cond _ a b => bif Nat.beq (fr a) 0 then fr b else fr a
  | _ => 0
def exec (E : Env) (n : Nat) (ρ : FuncId → Option (Callee R)) (Λ : Nat → Option (St → (Exit → St → Option R) → Option R)) : Code → St → (Exit → St → Option R) → Option R
  | .skip, st, K => K .normal st
  | .seq a b, st, K => exec E n ρ Λ a st fun e st => match e with
    | .normal => match Λ (2 * fr b + 1) with
      | some J => J st K
      | none => exec E n ρ Λ b st K
    | e => K e st
  | .cond c x y, st, K => splitB st c fun b st => match b with
    | true => exec E n ρ Λ x st K
    | false => exec E n ρ Λ y st K
  | .block id c, st, K => exec E n ρ Λ c st fun e st => match e with
    | .exit j => bif Nat.beq j id then K .normal st else K (.exit j) st
    | e => K e st
  | .loop c, st, K => match Λ (2 * fr c) with
    | some L => L st K
    | none => none
  | .region _ ops draw, st, K => match draw with
    | false => evOps E n ρ ops.toList ops.toList st fun st => K .normal st
    | true => evDraw E n ρ ops.toList ops.toList 0 [] (st.freezeAll E (argRows ρ st ops.toList)) [] fun st => K .normal st
  | .exit id, st, K => K (.exit id) st
  | .ret, st, K => K .ret st
  | .scope c, st, K => exec E n ρ Λ c st fun e st => match e with
    | .goto _ => none
    | e => K e st
  | .label _, st, K => K .normal st
  | _, _, _ => none
def wResults (E : Env) : List (ResultVar × TypeId) → St → List PV → (List PV → Option R) → Option R
  | [], _, acc, K => K acc.reverse
  | (.tmp t, ty) :: l, st, acc, K => wPure E st ty (.tmp t) fun v st => wResults E l st (v :: acc) K
  | (.cell a t, _) :: l, st, acc, K => evLoad E st t (st.get a) fun v =>
      let st' := st.freezeAll E v.rows
      evLoad E st' t (st'.get a) fun v => match v.pure? with
        | some v => wResults E l st' (v :: acc) K
        | none => none
def oneOrAll (K : GV → Option R) : List PV → Option R
  | [v] => K (.pv v)
  | vs => K (.tup (vs.map .p))
def retPure (E : Env) (fn : Func) (K : GV → Option R) : Exit → St → Option R
  | .normal, st => wResults E (fn.results.toList.zip fn.resultTypes.toList) st [] (oneOrAll K)
  | .ret, st => wResults E (fn.results.toList.zip fn.resultTypes.toList) st [] (oneOrAll K)
  | _, _ => none
def args0 : Nat → List GV → List (Nat × GV)
  | _, [] => []
  | i, v :: l => (i, v) :: args0 (i + 1) l
def execPure (E : Env) (ρ : FuncId → Option (Callee R)) (Λ : Nat → Option (St → (Exit → St → Option R) → Option R)) (fn : Func) (args : List PV) (K : GV → Option R) : Option R :=
  bif Nat.ble args.length fn.ntmps && Nat.beq fn.results.size fn.resultTypes.size then
    match fn.body with
    | some c => exec E fn.ntmps ρ Λ c { t := args0 0 (args.map .pv), h := [] } (retPure E fn K)
    | none => none
  else none
def GV.norm (v : GV) : GV := match v.pure? with
  | some x => .c (.p x)
  | none => v
def gResults (E : Env) : List ResultVar → St → List GV → (List GV → Option R) → Option R
  | [], _, acc, K => K acc.reverse
  | .tmp t :: l, st, acc, K => gResults E l st ((st.get t).norm :: acc) K
  | .cell a t :: l, st, acc, K => evLoad E st t (st.get a) fun v => gResults E l st (v.norm :: acc) K
def allC : List GV → Option (List CV)
  | [] => some []
  | .c v :: l => match allC l with
    | some vs => some (v :: vs)
    | none => none
  | _ :: _ => none
def gOneOrAll (K : GV → Option R) : List GV → Option R
  | [v] => K v
  | vs => match allC vs with
    | some cs => K (.tup cs)
    | none => none
def left (st : St) (v : GV) : List (Nat × Ob) := footH st.h (reach st.h 200 ((List.range 16).map (1000 + ·) ++ v.keys) [])
def newRows (vs : List GV) : List Nat := (vs.flatMap GV.rows).filter fun r => !(Nat.ble 1000 r && Nat.blt r 2000)
def heapOut (E : Env) (fn : Func) (st : St) (K : GV → List (Nat × Ob) → Option R) : Option R := gResults E fn.results.toList st [] (gOneOrAll fun v => K v (left st v))
def retHeap (E : Env) (fn : Func) (K : GV → List (Nat × Ob) → Option R) : Exit → St → Option R
  | .normal, st => gResults E fn.results.toList st [] fun us => heapOut E fn (st.freezeAll E (newRows us)) K
  | .ret, st => gResults E fn.results.toList st [] fun us => heapOut E fn (st.freezeAll E (newRows us)) K
  | _, _ => none
def execHeap (E : Env) (ρ : FuncId → Option (Callee R)) (Λ : Nat → Option (St → (Exit → St → Option R) → Option R)) (fn : Func) (args : List GV) (H : List (Nat × Ob)) (K : GV → List (Nat × Ob) → Option R) : Option R :=
  bif Nat.ble args.length fn.ntmps then
    match fn.body with
    | some c => exec E fn.ntmps ρ Λ c { t := args0 0 args, h := H } (retHeap E fn K)
    | none => none
  else none
/-! The loops and the second parts of a code. -/
def loops : Code → List Code
  | .seq a b => loops a ++ loops b
  | .cond _ a b => loops a ++ loops b
  | .block _ c => loops c
  | .scope c => loops c
  | .loop c => c :: loops c
  | _ => []
def seconds : Code → List Code
  | .seq a b => b :: (seconds a ++ seconds b)
  | .cond _ a b => seconds a ++ seconds b
  | .block _ c => seconds c
  | .scope c => seconds c
  | .loop c => seconds c
  | _ => []
end
end Go.Dip
end
/- An ideal semantics of the model's code, part 3: what represents what; the facts on memory. -/
section
set_option linter.unusedVariables false
set_option linter.unusedSimpArgs false
namespace Go.Dip
abbrev Mem := Nat → Nat → Option Value
def MemLe (I J : Mem) : Prop := ∀ b o v, I b o = some v → J b o = some v
theorem MemLe.refl (I : Mem) : MemLe I I := fun _ _ _ h => h
theorem MemLe.trans {I J K : Mem} (h : MemLe I J) (k : MemLe J K) : MemLe I K := fun b o v x => k b o v (h b o v x)
structure RowF (I : Mem) (c n b o : Nat) (f : Nat → Nat → Value) : Prop where
  hI : ∀ i j, i < n → j < c → I b (o + (i * c + j)) = some (f i j)
  h1 : ∀ i j, i < n → j < c → (f i j).oneCell' = true
theorem RowF.mono {I J : Mem} (hIJ : MemLe I J) {c n b o : Nat} {f : Nat → Nat → Value} (h : RowF I c n b o f) : RowF J c n b o f :=
  ⟨fun i j hi hj => hIJ _ _ _ (h.hI i j hi hj), h.h1⟩
inductive RepP (I : Mem) : PV → Value → Prop
  | any (v : Value) : RepP I .any v
  | gone : RepP I .gone undef
  | bool (b : Bool) : RepP I (.bool b) (.bool b)
  | int (k : IntKind) (n : Int) : RepP I (.int k n) (.int k n)
  | str (s : List UInt8) : RepP I (.str s) (.string ⟨s.toArray⟩)
  | agg (cs : List PV) (vs : Array Value) (hl : cs.length = vs.size) (h : ∀ i, i < cs.length → RepP I (cs.getD i .any) (vs.getD i undef))
      (h1 : ∀ i, i < cs.length → (vs.getD i undef).oneCell' = true) : RepP I (.agg cs) (.agg vs)
  | nilsl (c : Nat) (a : Option Addr) : RepP I (.sl c []) (.slice a 0 0)
  | sl (c : Nat) (es : List PV) (b o cap : Nat) (f : Nat → Nat → Value) (hcap : es.length ≤ cap) (hc : ∀ i, i < es.length → (es.getD i .any).cnt = c)
      (hI : RowF I c es.length b o f) (hf : ∀ i j, i < es.length → j < c → RepP I (pcell (es.getD i .any) j) (f i j)) :
      RepP I (.sl c es) (.slice (some ⟨b, o, none⟩) es.length cap)
  | fn (f : FuncId) : RepP I (.fn f) (.func (.func f) #[] #[])
  | nilp : RepP I .nilp (.pointer none)
  | nilif : RepP I .nilif .nilIface
  | someif (t : TypeId) (v : Value) : RepP I .someif (.iface t v)
theorem RepP.mono {I J : Mem} (hIJ : MemLe I J) {x : PV} {v : Value} (h : RepP I x v) : RepP J x v := by
  induction h with
  | any v => exact .any v
  | gone => exact .gone
  | bool b => exact .bool b
  | int k n => exact .int k n
  | str s => exact .str s
  | agg cs vs hl h h1 ih => exact .agg cs vs hl ih h1
  | nilsl c a => exact .nilsl c a
  | sl c es b o cap f hcap hc hI hf ih => exact .sl c es b o cap f hcap hc (hI.mono hIJ) ih
  | fn f => exact .fn f
  | nilp => exact .nilp
  | nilif => exact .nilif
  | someif t v => exact .someif t v
inductive Loc where
  | box (b : Nat)
  | row (v : Value) (c : Nat)
  | bld (b base : Nat)
abbrev Locs := Nat → Option Loc
def Loc.blk : Loc → Option Nat
  | .box b => some b
  | .row v _ => v.ownBlock
  | .bld b _ => some b
def SubVal (v : Value) (c : Nat) (lo hi : Int) (x : Value) : Prop :=
  0 ≤ lo ∧ lo ≤ hi ∧ ((v = .slice none 0 0 ∧ hi = 0 ∧ x = .slice none 0 0) ∨
    ∃ g n cap o cap', v = .slice (some ⟨g, 0, none⟩) n cap ∧ hi ≤ n ∧ x = .slice (some ⟨g, o, none⟩) (hi - lo).toNat cap' ∧ (lo < hi → o = lo.toNat * c) ∧ (hi - lo).toNat ≤ cap')
def PtrAt (μ : Locs) (r off : Nat) (x : Value) : Prop :=
  (∃ b, μ r = some (.box b) ∧ x = .pointer (some ⟨b, off, none⟩)) ∨ (∃ b base, μ r = some (.bld b base) ∧ off = 0 ∧ x = .pointer (some ⟨b, 0, none⟩))
def RepC (I : Mem) (μ : Locs) : CV → Value → Prop
  | .p v, x => RepP I v x
  | .nils _, x => x = .slice none 0 0
  | .orow r, x => ∃ c, μ r = some (.row x c)
  | .osub r lo hi, x => ∃ v c, μ r = some (.row v c) ∧ SubVal v c lo hi x
  | .ptr r off, x => PtrAt μ r off x
  | .ptrE r i off, x => ∃ g n cap c, μ r = some (.row (.slice (some ⟨g, 0, none⟩) n cap) c) ∧ 0 ≤ i ∧ i < n ∧ x = .pointer (some ⟨g, i.toNat * c + off, none⟩)
  | .iptr c es i off, x => ∃ b o f, RowF I c es.length b o f ∧ (∀ i, i < es.length → (es.getD i .any).cnt = c) ∧ (∀ i j, i < es.length → j < c → RepP I (pcell (es.getD i .any) j) (f i j)) ∧
      0 ≤ i ∧ i < es.length ∧ x = .pointer (some ⟨b, o + (i.toNat * c + off), none⟩)
  | .fn f rs, x => ∃ vs : Array Value, x = .func (.func f) #[] vs ∧ vs.size = rs.length ∧ ∀ j r, rs[j]? = some r → PtrAt μ r 0 (vs.getD j undef)
  | .glob g, x => x = .pointer (some ⟨g, 0, none⟩)
theorem PtrAt.agree {μ ν : Locs} {r off : Nat} {x : Value} (h : PtrAt μ r off x) (e : ν r = μ r) : PtrAt ν r off x := by
  unfold PtrAt at h ⊢
  rw [e]
  exact h
theorem RepC.mono {I J : Mem} {μ ν : Locs} (hIJ : MemLe I J) {v : CV} {x : Value} (h : RepC I μ v x) (hk : ∀ r, r ∈ v.keys → ν r = μ r) : RepC J ν v x := by
  cases v with
  | p v => exact RepP.mono hIJ h
  | nils c => exact h
  | orow r => obtain ⟨c, h1⟩ := h; exact ⟨c, (hk r (by simp [CV.keys])).trans h1⟩
  | osub r a b => obtain ⟨l, c, h1, h2⟩ := h; exact ⟨l, c, (hk r (by simp [CV.keys])).trans h1, h2⟩
  | ptr r o => exact PtrAt.agree h (hk r (by simp [CV.keys]))
  | ptrE r i o => obtain ⟨g, n, cap, c, h1, h2⟩ := h; exact ⟨g, n, cap, c, (hk r (by simp [CV.keys])).trans h1, h2⟩
  | iptr c es i o => obtain ⟨b, p, f, h1, h2, h3, h4⟩ := h; exact ⟨b, p, f, h1.mono hIJ, h2, fun i j hi hj => (h3 i j hi hj).mono hIJ, h4⟩
  | fn f rs =>
    obtain ⟨vs, h1, h2, h3⟩ := h
    exact ⟨vs, h1, h2, fun j r hj => (h3 j r hj).agree (hk r (by simpa [CV.keys] using List.mem_of_getElem? hj))⟩
  | glob g => exact h
def RepCs (I : Mem) (μ : Locs) (cs : List CV) (vs : List Value) : Prop :=
  cs.length = vs.length ∧ ∀ (i : Nat) v, cs[i]? = some v → RepC I μ v (vs.getD i undef) ∧ (vs.getD i undef).oneCell' = true
theorem RepCs.mono {I J : Mem} {μ ν : Locs} (hIJ : MemLe I J) {cs : List CV} {vs : List Value} (h : RepCs I μ cs vs) (hk : ∀ v, v ∈ cs → ∀ r, r ∈ v.keys → ν r = μ r) : RepCs J ν cs vs :=
  ⟨h.1, fun i v hv => ⟨(h.2 i v hv).1.mono hIJ (hk v (List.mem_of_getElem? hv)), (h.2 i v hv).2⟩⟩
def RepG (I : Mem) (μ : Locs) : GV → Value → Prop
  | .c v, x => RepC I μ v x
  | .agg cs, x => ∃ vs : Array Value, x = .agg vs ∧ RepCs I μ cs vs.toList
  | .tup cs, x => ∃ vs : Array Value, x = .tuple vs ∧ cs.length = vs.size ∧ ∀ (i : Nat) v, cs[i]? = some v → RepC I μ v (vs.getD i undef)
theorem RepG.mono {I J : Mem} {μ ν : Locs} (hIJ : MemLe I J) {v : GV} {x : Value} (h : RepG I μ v x) (hk : ∀ r, r ∈ v.keys → ν r = μ r) : RepG J ν v x := by
  cases v with
  | c v => exact RepC.mono hIJ h hk
  | agg cs =>
    obtain ⟨vs, h1, h2⟩ := h
    exact ⟨vs, h1, h2.mono hIJ fun v hv r hr => hk r (by simp only [GV.keys, List.mem_flatMap]; exact ⟨v, hv, hr⟩)⟩
  | tup cs =>
    obtain ⟨vs, h1, h2, h3⟩ := h
    exact ⟨vs, h1, h2, fun i v hv => (h3 i v hv).mono hIJ fun r hr => hk r (by simp only [GV.keys, List.mem_flatMap]; exact ⟨v, List.mem_of_getElem? hv, hr⟩)⟩
theorem RepG.le {I J : Mem} {μ : Locs} (hIJ : MemLe I J) {v : GV} {x : Value} (h : RepG I μ v x) : RepG J μ v x := h.mono hIJ fun _ _ => rfl
theorem RepG.any (I : Mem) (μ : Locs) (x : Value) : RepG I μ .any x := RepP.any x
def RowRep (I : Mem) (c : Nat) (es : List PV) (xs : List Value) : Prop :=
  ∀ i, i < es.length → (es.getD i .any).cnt = c ∧ ∀ j, j < c → RepP I (pcell (es.getD i .any) j) (xs.getD (i * c + j) undef) ∧ (xs.getD (i * c + j) undef).oneCell' = true
theorem RowRep.mono {I J : Mem} (hIJ : MemLe I J) {c : Nat} {es : List PV} {xs : List Value} (h : RowRep I c es xs) : RowRep J c es xs :=
  fun i hi => ⟨(h i hi).1, fun j hj => ⟨((h i hi).2 j hj).1.mono hIJ, ((h i hi).2 j hj).2⟩⟩
structure Cx where
  E : Env
  tB : TypeId
  B : Nat
  S : Nat → Prop
  hb : Bool
  bb : Nat
  w1 : World
  W0 : World
structure CxOk (X : Cx) : Prop where
  low : ∀ k, X.S k → X.W0.heap.size ≤ k
  low1 : X.W0.heap.size ≤ X.w1.heap.size
  lowB : X.W0.heap.size ≤ X.B
structure Frame (X : Cx) (w w' : World) : Prop where
  os : w'.os = w.os
  tape : w'.tape = w.tape
  output : w'.output = w.output
  size : w.heap.size ≤ w'.heap.size
  keep : ∀ b o, w.heap[b]? = some o → ¬ X.S b → (X.hb = true → b < X.bb ∨ ∀ c fz, o ≠ .cells c X.E.tb fz) → w'.heap[b]? = some o
def ImmOk (X : Cx) (I : Mem) (w : World) : Prop :=
  ∀ b o v, I b o = some v → ∃ arr T fz, w.heap[b]? = some (.cells arr T fz) ∧ arr[o]? = some v ∧ (b < X.B ∨ T ≠ X.E.tb)
def ObOk (X : Cx) (I : Mem) (μ : Locs) (w : World) (r : Nat) : Ob → Prop
  | .box cs => ∃ b arr T, μ r = some (.box b) ∧ X.B ≤ b ∧ w.heap[b]? = some (.cells arr T (0, 0)) ∧ T ≠ X.E.tb ∧ RepCs I μ cs arr.toList
  | .row e es => ∃ v xs, μ r = some (.row v (X.E.sz e)) ∧ w.ownsRow X.B e (X.E.sz e) v es.length xs ∧ RowRep I (X.E.sz e) es xs
  | .bld s => ∃ b base, μ r = some (.bld b base) ∧ X.B ≤ base ∧ ((X.hb = true ∧ X.bb ≤ base) ∨ X.w1.heap.size ≤ base) ∧ Lib.IsBuilderF X.tB X.E.tb base b (Lib.byteCells s) w
structure HeapOk (X : Cx) (I : Mem) (μ : Locs) (w : World) (h : List (Nat × Ob)) : Prop where
  ok : ∀ r o, look h r = some o → ObOk X I μ w r o
  apart : ∀ r r' o o' l l' b, look h r = some o → look h r' = some o' → r ≠ r' → μ r = some l → μ r' = some l' → l.blk = some b → l'.blk ≠ some b
  imm : ∀ r o l b, look h r = some o → μ r = some l → l.blk = some b → ∀ p, I b p = none
  own : ∀ r o l b, look h r = some o → μ r = some l → l.blk = some b → X.S b ∨ X.w1.heap.size ≤ b
  alone : ∀ r r' o o', look h r = some o → look h r' = some o' → r ≠ r' → o.isBld = true → o'.isBld = false ∧ o'.isByte X.E = false
structure Sim (X : Cx) (n : Nat) (I : Mem) (μ : Locs) (st : St) (a : Act) (w : World) : Prop where
  size : a.tmps.size = n
  defers : a.defers = []
  t : ∀ i v, look st.t i = some v → RepG I μ v (a.tmps.getD i undef)
  h : HeapOk X I μ w st.h
  im : ImmOk X I w
  bw : X.B ≤ w.heap.size
  fr : Frame X X.w1 w
  cx : CxOk X
  base : RowKit.Below X.W0.heap.size X.W0 w
/-! ### Lists by keys -/
theorem nbeq (a b : Nat) : Nat.beq a b = decide (a = b) := by
  by_cases h : a = b
  · subst h; simp
  · rw [decide_eq_false h]
    cases hb : Nat.beq a b
    · rfl
    · exact absurd (Nat.eq_of_beq_eq_true hb) h
section
variable {α β : Type}
theorem look_cons (x : Nat × α) (l : List (Nat × α)) (i : Nat) : look (x :: l) i = if i = x.1 then some x.2 else look l i := by
  simp only [look, nbeq]
  by_cases h : i = x.1 <;> simp [h]
theorem look_drop (r : Nat) : ∀ (l : List (Nat × α)) (i : Nat), look (drop r l) i = if i = r then none else look l i
  | [], i => by simp [look, drop]
  | x :: l, i => by
    have ih := look_drop r l i
    simp only [drop, nbeq]
    by_cases h : r = x.1
    · simp only [h, decide_true, cond_true]
      rw [← h, ih, look_cons]
      by_cases hi : i = r
      · simp [hi]
      · simp [hi, ← h]
    · simp only [h, decide_false, cond_false]
      rw [look_cons, look_cons, ih]
      by_cases hx : i = x.1
      · have hne : i ≠ r := fun e => h (e ▸ hx)
        rw [if_pos hx, if_neg hne, if_pos hx]
      · rw [if_neg hx, if_neg hx]
theorem look_map (f : α → β) : ∀ (l : List (Nat × α)) (i : Nat), look (l.map fun x => (x.1, f x.2)) i = (look l i).map f
  | [], i => rfl
  | x :: l, i => by
    rw [List.map_cons, look_cons, look_cons, look_map f l i]
    by_cases h : i = x.1 <;> simp [h]
theorem look_append : ∀ (l m : List (Nat × α)) (i : Nat), look (l ++ m) i = (look l i).or (look m i)
  | [], m, i => by simp [look]
  | x :: l, m, i => by
    rw [List.cons_append, look_cons, look_cons, look_append l m i]
    by_cases h : i = x.1 <;> simp [h]
theorem look_mem : ∀ (l : List (Nat × α)) (i : Nat) (v : α), look l i = some v → (i, v) ∈ l
  | [], _, _, h => by simp [look] at h
  | x :: l, i, v, h => by
    rw [look_cons] at h
    by_cases hx : i = x.1
    · simp only [hx, if_true, Option.some.injEq] at h
      subst h
      rw [hx]
      exact .head _
    · simp only [hx, if_false] at h
      exact .tail _ (look_mem l i v h)
end
/-! ### Striking -/
theorem bif_keys {p : Prop} [Decidable p] {v : CV} {r : Nat} (h : ¬ p → r ∉ v.keys) : r ∉ (bif decide p then CV.p .any else v).keys ∧ ∀ k, k ∈ (bif decide p then CV.p .any else v).keys → k ∈ v.keys := by
  by_cases hp : p
  · simp [hp, CV.keys]
  · simp only [hp, decide_false, cond_false]
    exact ⟨h hp, fun k hk => hk⟩
theorem CV.strike_keys (r : Nat) (v : CV) : r ∉ (v.strike r).keys ∧ ∀ k, k ∈ (v.strike r).keys → k ∈ v.keys := by
  cases v with
  | orow q => simp only [CV.strike, nbeq]; exact bif_keys fun h => by simp [CV.keys]; omega
  | osub q a b => simp only [CV.strike, nbeq]; exact bif_keys fun h => by simp [CV.keys]; omega
  | ptr q o => simp only [CV.strike, nbeq]; exact bif_keys fun h => by simp [CV.keys]; omega
  | ptrE q i o => simp only [CV.strike, nbeq]; exact bif_keys fun h => by simp [CV.keys]; omega
  | fn f rs =>
    simp only [CV.strike]
    cases h : rs.any (Nat.beq r ·)
    · simp only [cond_false, CV.keys]
      refine ⟨fun hm => ?_, fun k hk => hk⟩
      have : rs.any (Nat.beq r ·) = true := List.any_eq_true.2 ⟨r, hm, by simp⟩
      rw [h] at this
      cases this
    · simp [CV.keys]
  | _ => simp [CV.strike, CV.keys]
theorem RepC.strike {I : Mem} {μ : Locs} {v : CV} {x : Value} (r : Nat) (h : RepC I μ v x) : RepC I μ (v.strike r) x := by
  cases v <;> simp only [CV.strike] <;>
    first
      | exact h
      | (generalize hb : Nat.beq _ r = b; cases b; exact h; exact RepP.any x)
      | (generalize hb : List.any _ _ = b; cases b; exact h; exact RepP.any x)
theorem RepG.strike {I : Mem} {μ : Locs} {v : GV} {x : Value} (r : Nat) (h : RepG I μ v x) : RepG I μ (v.map (CV.strike r)) x := by
  cases v with
  | c v => exact RepC.strike r h
  | agg cs =>
    obtain ⟨vs, h1, h2, h3⟩ := h
    refine ⟨vs, h1, by simpa using h2, fun i v hv => ?_⟩
    rw [List.getElem?_map] at hv
    obtain ⟨u, hu, rfl⟩ := Option.map_eq_some_iff.1 hv
    exact ⟨(h3 i u hu).1.strike r, (h3 i u hu).2⟩
  | tup cs =>
    obtain ⟨vs, h1, h2, h3⟩ := h
    refine ⟨vs, h1, by simpa using h2, fun i v hv => ?_⟩
    rw [List.getElem?_map] at hv
    obtain ⟨u, hu, rfl⟩ := Option.map_eq_some_iff.1 hv
    exact (h3 i u hu).strike r
theorem RepCs.strike {I : Mem} {μ : Locs} {cs : List CV} {vs : List Value} (r : Nat) (h : RepCs I μ cs vs) : RepCs I μ (cs.map (CV.strike r)) vs := by
  refine ⟨by simpa using h.1, fun i v hv => ?_⟩
  rw [List.getElem?_map] at hv
  obtain ⟨u, hu, rfl⟩ := Option.map_eq_some_iff.1 hv
  exact ⟨(h.2 i u hu).1.strike r, (h.2 i u hu).2⟩
theorem GV.strike_keys (r : Nat) (v : GV) : r ∉ (v.map (CV.strike r)).keys := by
  cases v with
  | c v => exact (CV.strike_keys r v).1
  | agg cs =>
    simp only [GV.map, GV.keys, List.mem_flatMap, List.mem_map, not_exists, not_and]
    rintro v ⟨u, _, rfl⟩
    exact (CV.strike_keys r u).1
  | tup cs =>
    simp only [GV.map, GV.keys, List.mem_flatMap, List.mem_map, not_exists, not_and]
    rintro v ⟨u, _, rfl⟩
    exact (CV.strike_keys r u).1
end Go.Dip
end
/- An ideal semantics of the model's code, part 4: how a state goes on representing the world: strikes, new objects, what is frozen. -/
section
set_option linter.unusedVariables false
set_option linter.unusedSimpArgs false
namespace Go.Dip
def upd (μ : Locs) (r : Nat) (l : Loc) : Locs := fun q => if q = r then some l else μ q
theorem upd_same (μ : Locs) (r : Nat) (l : Loc) : upd μ r l r = some l := by simp [upd]
theorem upd_ne (μ : Locs) {r q : Nat} (l : Loc) (h : q ≠ r) : upd μ r l q = μ q := by simp [upd, h]
theorem ObOk.le {X : Cx} {I J : Mem} {μ : Locs} {w : World} {r : Nat} {o : Ob} (hIJ : MemLe I J) (h : ObOk X I μ w r o) : ObOk X J μ w r o := by
  cases o with
  | box cs => obtain ⟨b, arr, T, h1, h2, h3, h4, h5⟩ := h; exact ⟨b, arr, T, h1, h2, h3, h4, h5.mono hIJ fun _ _ _ _ => rfl⟩
  | row e es => obtain ⟨v, xs, h1, h2, h3⟩ := h; exact ⟨v, xs, h1, h2, h3.mono hIJ⟩
  | bld s => exact h
theorem ObOk.strike {X : Cx} {I : Mem} {μ ν : Locs} {w : World} {r q : Nat} {o : Ob} (h : ObOk X I μ w q o) (hq : q ≠ r) (hν : ∀ k, k ≠ r → ν k = μ k) : ObOk X I ν w q (o.map (CV.strike r)) := by
  cases o with
  | box cs =>
    obtain ⟨b, arr, T, h1, h2, h3, h4, h5⟩ := h
    refine ⟨b, arr, T, (hν q hq).trans h1, h2, h3, h4, (h5.strike r).mono (MemLe.refl I) ?_⟩
    intro v hv k hk
    obtain ⟨u, _, rfl⟩ := List.mem_map.1 hv
    exact hν k fun e => (CV.strike_keys r u).1 (e ▸ hk)
  | row e es => obtain ⟨v, xs, h1, h2⟩ := h; exact ⟨v, xs, (hν q hq).trans h1, h2⟩
  | bld s => obtain ⟨b, base, h1, h2⟩ := h; exact ⟨b, base, (hν q hq).trans h1, h2⟩
theorem look_strike (r : Nat) (st : St) (q : Nat) : look (st.strike r).h q = if q = r then none else (look st.h q).map (Ob.map (CV.strike r)) := by
  simp only [St.strike, St.map, look_map, look_drop]
  split <;> simp
theorem look_strike_t (r : Nat) (st : St) (i : Nat) : look (st.strike r).t i = (look st.t i).map (GV.map (CV.strike r)) := by
  simp only [St.strike, St.map, look_map]
theorem Ob.map_isBld (f : CV → CV) (o : Ob) : (o.map f).isBld = o.isBld := by cases o <;> rfl
theorem Ob.map_isByte (f : CV → CV) (E : Env) (o : Ob) : (o.map f).isByte E = o.isByte E := by cases o <;> rfl
theorem HeapOk.strike {X : Cx} {I : Mem} {μ ν : Locs} {w : World} {st : St} (h : HeapOk X I μ w st.h) (r : Nat) (hν : ∀ k, k ≠ r → ν k = μ k) : HeapOk X I ν w (st.strike r).h := by
  have key : ∀ q o, look (st.strike r).h q = some o → q ≠ r ∧ ∃ o', look st.h q = some o' ∧ o = o'.map (CV.strike r) := by
    intro q o ho
    rw [look_strike] at ho
    by_cases hq : q = r
    · simp [hq] at ho
    · simp only [hq, if_false] at ho
      obtain ⟨o', h1, h2⟩ := Option.map_eq_some_iff.1 ho
      exact ⟨hq, o', h1, h2.symm⟩
  refine ⟨?_, ?_, ?_, ?_, ?_⟩
  · intro q o ho
    obtain ⟨hq, o', h1, rfl⟩ := key q o ho
    exact (h.ok q o' h1).strike hq hν
  · intro q q' o o' l l' b ho ho' hne hl hl' hb
    obtain ⟨hq, p, h1, rfl⟩ := key q o ho
    obtain ⟨hq', p', h1', rfl⟩ := key q' o' ho'
    exact h.apart q q' p p' l l' b h1 h1' hne ((hν q hq).symm.trans hl) ((hν q' hq').symm.trans hl') hb
  · intro q o l b ho hl hb
    obtain ⟨hq, p, h1, rfl⟩ := key q o ho
    exact h.imm q p l b h1 ((hν q hq).symm.trans hl) hb
  · intro q o l b ho hl hb
    obtain ⟨hq, p, h1, rfl⟩ := key q o ho
    exact h.own q p l b h1 ((hν q hq).symm.trans hl) hb
  · intro q q' o o' ho ho' hne hb
    obtain ⟨hq, p, h1, rfl⟩ := key q o ho
    obtain ⟨hq', p', h1', rfl⟩ := key q' o' ho'
    rw [Ob.map_isBld] at hb
    rw [Ob.map_isBld, Ob.map_isByte]
    exact h.alone q q' p p' h1 h1' hne hb
theorem Sim.strike {X : Cx} {n : Nat} {I : Mem} {μ ν : Locs} {st : St} {a : Act} {w : World} (h : Sim X n I μ st a w) (r : Nat) (hν : ∀ k, k ≠ r → ν k = μ k) : Sim X n I ν (st.strike r) a w := by
  refine ⟨h.size, h.defers, ?_, h.h.strike r hν, h.im, h.bw, h.fr, h.cx, h.base⟩
  intro i v hv
  rw [look_strike_t] at hv
  obtain ⟨u, hu, rfl⟩ := Option.map_eq_some_iff.1 hv
  refine ((h.t i u hu).strike r).mono (MemLe.refl I) fun k hk => hν k ?_
  intro e
  subst e
  exact GV.strike_keys k u hk
theorem ObOk.grown {X : Cx} {I : Mem} {μ : Locs} {w w' : World} {r : Nat} {o : Ob} {row : Option Nat} (h : ObOk X I μ w r o) (hg : w.grownBy w' row) (hl : ∀ l, μ r = some l → l.blk = none ∨ l.blk ≠ row)
    (hb : o.isBld = true → ∀ k, row = some k → ∃ arr T fz, w.heap[k]? = some (.cells arr T fz) ∧ T ≠ X.E.tb) : ObOk X I μ w' r o := by
  cases o with
  | box cs =>
    obtain ⟨b, arr, T, h1, h2, h3, h4, h5⟩ := h
    refine ⟨b, arr, T, h1, h2, ?_, h4, h5⟩
    rw [hg.block b (Array.getElem?_eq_some_iff.1 h3).1 ?_]
    · exact h3
    · rcases hl _ h1 with e | e
      · simp [Loc.blk] at e
      · simpa [Loc.blk] using e
  | row e es =>
    obtain ⟨v, xs, h1, h2, h3⟩ := h
    exact ⟨v, xs, h1, h2.kept hg (hl _ h1), h3⟩
  | bld s =>
    obtain ⟨b, base, h1, h2, h2', h3⟩ := h
    refine ⟨b, base, h1, h2, h2', ?_⟩
    have hne : some b ≠ row := by
      rcases hl _ h1 with e | e
      · simp [Loc.blk] at e
      · simpa [Loc.blk] using e
    have one : ∀ p, Lib.BuilderAtF X.tB X.E.tb base b p (Lib.byteCells s) w → Lib.BuilderAtF X.tB X.E.tb base b p (Lib.byteCells s) w' := by
      intro p hp
      obtain ⟨k1, v, k2, k3, k4⟩ := hp
      refine ⟨k1, v, ?_, ?_, k4⟩
      · rw [hg.block b (Array.getElem?_eq_some_iff.1 k2).1 hne]
        exact k2
      · refine ⟨k3.1, ?_⟩
        rcases k3.2 with hn | ⟨g, cap, cur, fz, hv, hbg, hgg, rest⟩
        · exact .inl hn
        · refine .inr ⟨g, cap, cur, fz, hv, hbg, ?_, rest⟩
          rw [hg.block g (Array.getElem?_eq_some_iff.1 hgg).1 ?_]
          · exact hgg
          · intro e
            obtain ⟨arr, T, fz', h5, h6⟩ := hb rfl g e.symm
            rw [hgg] at h5
            injection h5 with h5
            injection h5 with _ h5
            exact h6 h5.symm
    rcases h3 with h3 | h3
    · exact .inl (one _ h3)
    · exact .inr (one _ h3)
theorem ImmOk.grown {X : Cx} {I : Mem} {w w' : World} {row : Option Nat} (h : ImmOk X I w) (hg : w.grownBy w' row) (hi : ∀ k, row = some k → ∀ p, I k p = none) : ImmOk X I w' := by
  intro b o v hv
  obtain ⟨arr, T, fz, h1, h2⟩ := h b o v hv
  refine ⟨arr, T, fz, ?_, h2⟩
  rw [hg.block b (Array.getElem?_eq_some_iff.1 h1).1 ?_]
  · exact h1
  · intro e
    rw [hi b e.symm o] at hv
    cases hv
theorem Frame.grown {X : Cx} {w1 w w' : World} {row : Option Nat} (h : Frame X w1 w) (hg : w.grownBy w' row) (hr : ∀ k, row = some k → X.S k ∨ w1.heap.size ≤ k) : Frame X w1 w' := by
  refine ⟨hg.os.trans h.os, hg.tape.trans h.tape, hg.output.trans h.output, Nat.le_trans h.size hg.size, ?_⟩
  intro b o hb hS hx
  have h1 := h.keep b o hb hS hx
  rw [hg.block b (Array.getElem?_eq_some_iff.1 h1).1 ?_]
  · exact h1
  · intro e
    rcases hr b e.symm with k | k
    · exact hS k
    · have := (Array.getElem?_eq_some_iff.1 hb).1
      omega
structure Aside (X : Cx) (I : Mem) (μ : Locs) (w : World) (h : List (Nat × Ob)) (row : Option Nat) : Prop where
  free : ∀ k, row = some k → ∀ r o l, look h r = some o → μ r = some l → l.blk ≠ some k
  own : ∀ k, row = some k → X.S k ∨ X.w1.heap.size ≤ k
  imm : ∀ k, row = some k → ∀ p, I k p = none
  byte : ∀ k, row = some k → (∃ arr T fz, w.heap[k]? = some (.cells arr T fz) ∧ T ≠ X.E.tb) ∨ ∀ r o, look h r = some o → o.isBld = false
theorem Aside.none (X : Cx) (I : Mem) (μ : Locs) (w : World) (h : List (Nat × Ob)) : Aside X I μ w h none :=
  ⟨fun _ h => (by cases h), fun _ h => (by cases h), fun _ h => (by cases h), fun _ h => (by cases h)⟩
theorem HeapOk.grown {X : Cx} {I : Mem} {μ : Locs} {w w' : World} {h : List (Nat × Ob)} {row : Option Nat} (hh : HeapOk X I μ w h) (hg : w.grownBy w' row) (ha : Aside X I μ w h row) : HeapOk X I μ w' h := by
  refine ⟨?_, hh.apart, hh.imm, hh.own, hh.alone⟩
  intro r o ho
  refine (hh.ok r o ho).grown hg ?_ ?_
  · intro l hl
    cases hr : row with
    | none => cases hb : l.blk <;> simp
    | some k => exact .inr (ha.free k hr r o l ho hl)
  · intro hb k hk
    rcases ha.byte k hk with e | e
    · exact e
    · rw [e r o ho] at hb
      cases hb
theorem Sim.grown {X : Cx} {n : Nat} {I : Mem} {μ : Locs} {st : St} {a : Act} {w w' : World} {row : Option Nat} (h : Sim X n I μ st a w) (hg : w.grownBy w' row) (ha : Aside X I μ w st.h row) : Sim X n I μ st a w' :=
  ⟨h.size, h.defers, h.t, h.h.grown hg ha, h.im.grown hg ha.imm, Nat.le_trans h.bw hg.size, h.fr.grown hg ha.own, h.cx,
    h.base.grown hg (Nat.le_trans h.cx.lowB h.bw) fun k hk => by
      rcases ha.own k hk with e | e
      · exact h.cx.low k e
      · exact Nat.le_trans h.cx.low1 e⟩
theorem grownBy_drew (w : World) (row : Option Nat) : w.grownBy w.drew row := ⟨rfl, rfl, rfl, Nat.le_refl _, fun _ _ _ => rfl⟩
theorem Sim.drew {X : Cx} {n : Nat} {I : Mem} {μ : Locs} {st : St} {a : Act} {w : World} (h : Sim X n I μ st a w) : Sim X n I μ st a w.drew := h.grown (grownBy_drew w none) (Aside.none ..)
theorem HeapOk.new' {X : Cx} {I : Mem} {μ : Locs} {w : World} {h : List (Nat × Ob)} {d : Nat} {o : Ob} {l : Loc} (hh : HeapOk X I μ w h) (hd : look h d = none) (hl : μ d = some l) (ho : ObOk X I μ w d o)
    (hfree : ∀ b, l.blk = some b → (∀ r o l', look h r = some o → μ r = some l' → l'.blk ≠ some b) ∧ (∀ p, I b p = none) ∧ (X.S b ∨ X.w1.heap.size ≤ b)) (hnew : ∀ q p, look h q = some p → (o.isBld = true → p.isBld = false ∧ p.isByte X.E = false) ∧ (p.isBld = true → o.isBld = false ∧ o.isByte X.E = false)) : HeapOk X I μ w ((d, o) :: h) := by
  have key : ∀ q p, look ((d, o) :: h) q = some p → (q = d ∧ p = o) ∨ (q ≠ d ∧ look h q = some p) := by
    intro q p hp
    rw [look_cons] at hp
    by_cases e : q = d
    · simp only [e, if_true, Option.some.injEq] at hp
      exact .inl ⟨e, hp.symm⟩
    · simp only [e, if_false] at hp
      exact .inr ⟨e, hp⟩
  refine ⟨?_, ?_, ?_, ?_, ?_⟩
  · intro q p hp
    rcases key q p hp with ⟨rfl, rfl⟩ | ⟨_, h1⟩
    · exact ho
    · exact hh.ok q p h1
  · intro q q' p p' l1 l2 b hp hp' hne h1 h2 hb
    rcases key q p hp with ⟨rfl, rfl⟩ | ⟨_, k1⟩ <;> rcases key q' p' hp' with ⟨rfl, rfl⟩ | ⟨_, k2⟩
    · exact absurd rfl hne
    · rw [hl] at h1; injection h1 with h1; subst h1
      exact (hfree b hb).1 q' p' l2 k2 h2
    · rw [hl] at h2; injection h2 with h2; subst h2
      intro e
      exact (hfree b e).1 q p l1 k1 h1 hb
    · exact hh.apart q q' p p' l1 l2 b k1 k2 hne h1 h2 hb
  · intro q p l1 b hp h1 hb
    rcases key q p hp with ⟨rfl, rfl⟩ | ⟨_, k1⟩
    · rw [hl] at h1; injection h1 with h1; subst h1
      exact (hfree b hb).2.1
    · exact hh.imm q p l1 b k1 h1 hb
  · intro q p l1 b hp h1 hb
    rcases key q p hp with ⟨rfl, rfl⟩ | ⟨_, k1⟩
    · rw [hl] at h1; injection h1 with h1; subst h1
      exact (hfree b hb).2.2
    · exact hh.own q p l1 b k1 h1 hb
  · intro q q' p p' hp hp' hne hb
    rcases key q p hp with ⟨rfl, rfl⟩ | ⟨_, k1⟩ <;> rcases key q' p' hp' with ⟨rfl, rfl⟩ | ⟨_, k2⟩
    · exact absurd rfl hne
    · exact (hnew q' p' k2).1 hb
    · exact (hnew q p k1).2 hb
    · exact hh.alone q q' p p' k1 k2 hne hb
theorem HeapOk.new {X : Cx} {I : Mem} {μ : Locs} {w : World} {h : List (Nat × Ob)} {d : Nat} {o : Ob} {l : Loc} (hh : HeapOk X I μ w h) (hd : look h d = none) (hl : μ d = some l) (ho : ObOk X I μ w d o)
    (hfree : ∀ b, l.blk = some b → (∀ r o l', look h r = some o → μ r = some l' → l'.blk ≠ some b) ∧ (∀ p, I b p = none) ∧ (X.S b ∨ X.w1.heap.size ≤ b)) (hok : okNew X.E h o = true) : HeapOk X I μ w ((d, o) :: h) := by
  refine hh.new' hd hl ho hfree ?_
  intro q p hp
  have hm := look_mem h q p hp
  unfold okNew at hok
  cases hb : o.isBld
  · rw [hb] at hok
    simp only [cond_false] at hok
    refine ⟨fun e => (by cases e), fun e => ⟨rfl, ?_⟩⟩
    cases hy : o.isByte X.E
    · rfl
    · rw [hy] at hok
      simp only [cond_true, List.all_eq_true] at hok
      have := hok _ hm
      simp [e] at this
  · rw [hb] at hok
    simp only [cond_true, List.all_eq_true] at hok
    have := hok _ hm
    simp only [Bool.and_eq_true, Bool.not_eq_true'] at this
    exact ⟨fun _ => this, fun e => (by rw [this.1] at e; cases e)⟩
theorem Sim.fresh {X : Cx} {n : Nat} {I : Mem} {μ : Locs} {st : St} {a : Act} {w : World} (h : Sim X n I μ st a w) {b : Nat} (hb : w.heap.size ≤ b) :
    (∀ r o l', look st.h r = some o → μ r = some l' → l'.blk ≠ some b) ∧ (∀ p, I b p = none) ∧ (X.S b ∨ X.w1.heap.size ≤ b) := by
  refine ⟨?_, ?_, .inr (Nat.le_trans h.fr.size hb)⟩
  · intro r o l ho hl e
    have hk := h.h.ok r o ho
    cases o with
    | box cs =>
      obtain ⟨b', arr, T, h1, h2, h3, _⟩ := hk
      rw [h1] at hl
      injection hl with hl
      subst hl
      simp only [Loc.blk, Option.some.injEq] at e
      subst e
      have := (Array.getElem?_eq_some_iff.1 h3).1
      omega
    | row e' es =>
      obtain ⟨v, xs, h1, h2, _⟩ := hk
      rw [h1] at hl
      injection hl with hl
      subst hl
      have := (h2.lt b e).2
      omega
    | bld s =>
      obtain ⟨b', base, h1, h2, _, h3⟩ := hk
      rw [h1] at hl
      injection hl with hl
      subst hl
      simp only [Loc.blk, Option.some.injEq] at e
      subst e
      rcases h3 with ⟨_, v, k, _⟩ | ⟨_, v, k, _⟩ <;> (have := (Array.getElem?_eq_some_iff.1 k).1; omega)
  · intro p
    cases hI : I b p with
    | none => rfl
    | some v =>
      obtain ⟨arr, T, fz, h1, _⟩ := h.im b p v hI
      have := (Array.getElem?_eq_some_iff.1 h1).1
      omega
theorem strike_none (d : Nat) (st : St) : look (st.strike d).h d = none := by rw [look_strike]; simp
theorem grownBy_alloc' (w : World) (o : Obj) (row : Option Nat) : w.grownBy (w.alloc o) row := World.grownBy_alloc w o row
theorem Sim.newBox {X : Cx} {n : Nat} {I : Mem} {μ : Locs} {st : St} {a : Act} {w : World} (h : Sim X n I μ st a w) (d : Nat) (cs : List CV) (arr : Array Value) (T : TypeId) (hT : T ≠ X.E.tb)
    (hr : RepCs I μ cs arr.toList) (hk : ∀ v, v ∈ cs → d ∉ v.keys) (hok : okNew X.E (st.strike d).h (.box cs) = true) :
    Sim X n I (upd μ d (.box w.heap.size)) (newOb d (.box cs) (st.strike d)) a (w.alloc (.cells arr T)) := by
  have h1 : Sim X n I (upd μ d (.box w.heap.size)) (st.strike d) a w := h.strike d fun k hk => upd_ne μ _ hk
  have h2 := h1.grown (grownBy_alloc' w (.cells arr T) none) (Aside.none ..)
  have hf := h1.fresh (Nat.le_refl w.heap.size)
  refine ⟨h2.size, h2.defers, h2.t, ?_, h2.im, h2.bw, h2.fr, h2.cx, h2.base⟩
  refine h2.h.new (strike_none d st) (upd_same μ d _) ?_ ?_ hok
  · refine ⟨w.heap.size, arr, T, upd_same μ d _, h.bw, heap_alloc_new w _, hT, hr.mono (MemLe.refl I) ?_⟩
    intro v hv r hr'
    exact upd_ne μ _ fun e => hk v hv (e ▸ hr')
  · intro b hb
    simp only [Loc.blk, Option.some.injEq] at hb
    subst hb
    exact hf
theorem Sim.newRow {X : Cx} {n : Nat} {I : Mem} {μ : Locs} {st : St} {a : Act} {w : World} (h : Sim X n I μ st a w) (d : Nat) (e : TypeId) (es : List PV) (v : Value) (xs : List Value)
    (ho : w.ownsRow X.B e (X.E.sz e) v es.length xs) (hr : RowRep I (X.E.sz e) es xs)
    (hf : ∀ b, v.ownBlock = some b → (∀ r o l', look (st.strike d).h r = some o → μ r = some l' → l'.blk ≠ some b) ∧ (∀ p, I b p = none) ∧ (X.S b ∨ X.w1.heap.size ≤ b))
    (hok : okNew X.E (st.strike d).h (.row e es) = true) :
    Sim X n I (upd μ d (.row v (X.E.sz e))) (newOb d (.row e es) (st.strike d)) a w := by
  have h1 : Sim X n I (upd μ d (.row v (X.E.sz e))) (st.strike d) a w := h.strike d fun k hk => upd_ne μ _ hk
  refine ⟨h1.size, h1.defers, h1.t, ?_, h1.im, h1.bw, h1.fr, h1.cx, h1.base⟩
  refine h1.h.new (strike_none d st) (upd_same μ d _) ⟨v, xs, upd_same μ d _, ho, hr⟩ ?_ hok
  intro b hb
  obtain ⟨f1, f2, f3⟩ := hf b hb
  refine ⟨fun r o l' hr hl => f1 r o l' hr ?_, f2, f3⟩
  have hne : r ≠ d := fun e => by rw [e, strike_none] at hr; cases hr
  rw [← upd_ne μ (.row v (X.E.sz e)) hne]
  exact hl
end Go.Dip
end
/- An ideal semantics of the model's code, part 5: what is frozen; operands. -/
section
set_option linter.unusedVariables false
set_option linter.unusedSimpArgs false
namespace Go.Dip
theorem getD_lt {α : Type} {l : List α} {i : Nat} {d : α} (h : i < l.length) : l.getD i d = l[i] := by simp [List.getD_eq_getElem?_getD, List.getElem?_eq_getElem h]
theorem agetD {l : Array Value} {i : Nat} : l.getD i undef = l.toList.getD i undef := by
  simp [Array.getD_eq_getD_getElem?, List.getD_eq_getElem?_getD]
/-! ### Freezing -/
def thawI (I : Mem) (g m : Nat) (cur : Array Value) : Mem := fun b o => if b = g then (if o < m then cur[o]? else none) else I b o
theorem thawI_le {I : Mem} {g m : Nat} {cur : Array Value} (h : ∀ p, I g p = none) : MemLe I (thawI I g m cur) := by
  intro b o v hv
  unfold thawI
  by_cases e : b = g
  · subst e; rw [h o] at hv; cases hv
  · simpa [e] using hv
theorem sub_length {α : Type} (es : List α) (lo hi : Int) (h0 : 0 ≤ lo) (h1 : lo ≤ hi) (h2 : hi ≤ es.length) : (sub es lo hi).length = (hi - lo).toNat := by
  simp only [sub, List.length_take, List.length_drop]
  omega
theorem sub_getD {α : Type} (es : List α) (lo hi : Int) (d : α) (i : Nat) (h0 : 0 ≤ lo) (h2 : hi ≤ es.length) (hi' : i < (hi - lo).toNat) : (sub es lo hi).getD i d = es.getD (lo.toNat + i) d := by
  simp only [sub, List.getD_eq_getElem?_getD, List.getElem?_take, List.getElem?_drop, hi', if_true]
theorem rep_sub {I J : Mem} {c n g cap cap' o : Nat} {es : List PV} {xs : List Value} {cur : Array Value} (hIJ : MemLe I J) (hr : RowRep I c es xs) (hx : cur.toList.take (n * c) = xs) (hs : cur.size = cap * c) (hn : n ≤ cap)
    (hl : es.length = n) (hJ : ∀ p, p < n * c → J g p = cur[p]?) (lo hi : Int) (h0 : 0 ≤ lo) (h1 : lo ≤ hi) (h2 : hi ≤ n) (ho : lo < hi → o = lo.toNat * c) (hc' : (hi - lo).toNat ≤ cap') :
    RepP J (.sl c (sub es lo hi)) (.slice (some ⟨g, o, none⟩) (hi - lo).toNat cap') := by
  have hlen := sub_length es lo hi h0 h1 (by omega)
  have hcell : ∀ i j, i < n → j < c → ∃ v, cur[i * c + j]? = some v ∧ xs.getD (i * c + j) undef = v := by
    intro i j hi hj
    have hb : i * c + j < n * c := by
      have := Nat.mul_le_mul_right c (show i + 1 ≤ n from hi)
      rw [Nat.add_mul] at this
      omega
    have hb2 : i * c + j < cur.size := by
      have := Nat.mul_le_mul_right c hn
      omega
    refine ⟨cur[i * c + j], by simp [hb2], ?_⟩
    rw [← hx, List.getD_eq_getElem?_getD, List.getElem?_take]
    simp [hb, hb2]
  rw [← hlen]
  refine RepP.sl c _ g o cap' (fun i j => xs.getD ((lo.toNat + i) * c + j) undef) (by omega) ?_ ⟨?_, ?_⟩ ?_
  · intro i hi'
    rw [sub_getD es lo hi .any i h0 (by omega) (by omega)]
    exact (hr (lo.toNat + i) (by omega)).1
  · intro i j hi' hj
    have hlt : lo < hi := by omega
    rw [ho hlt]
    obtain ⟨v, hv, he⟩ := hcell (lo.toNat + i) j (by omega) hj
    have e : lo.toNat * c + (i * c + j) = (lo.toNat + i) * c + j := by rw [Nat.add_mul]; omega
    rw [e, hJ _ ?_, hv, he]
    have := Nat.mul_le_mul_right c (show lo.toNat + i + 1 ≤ n by omega)
    rw [Nat.add_mul] at this
    omega
  · intro i j hi' hj
    exact ((hr (lo.toNat + i) (by omega)).2 j hj).2
  · intro i j hi' hj
    rw [sub_getD es lo hi .any i h0 (by omega) (by omega)]
    exact ((hr (lo.toNat + i) (by omega)).2 j hj).1.mono hIJ
theorem sub_all {α : Type} (es : List α) : sub es 0 (es.length : Int) = es := by simp [sub]
theorem RepC.thaw {X : Cx} {I J : Mem} {μ : Locs} {r c : Nat} {es : List PV} {w : World} {e : TypeId} {v : Value} {xs : List Value} (hIJ : MemLe I J) (hμ : μ r = some (.row v c)) (ho : w.ownsRow X.B e c v es.length xs) (hr : RowRep I c es xs)
    (hJ : ∀ g n cap cur, v = .slice (some ⟨g, 0, none⟩) n cap → w.heap[g]? = some (.cells cur e (0, 0)) → ∀ p, p < n * c → J g p = cur[p]?) {x : CV} {y : Value} (h : RepC I μ x y) : RepC J μ (x.thaw r c es) y := by
  have keep : RepC J μ x y := h.mono hIJ fun _ _ => rfl
  have nilc : es.length = 0 → es = [] := List.eq_nil_of_length_eq_zero
  cases x with
  | orow q =>
    simp only [CV.thaw, nbeq]
    by_cases e : q = r
    · subst e
      simp only [decide_true, cond_true]
      obtain ⟨c', h1⟩ := h
      rw [hμ] at h1
      injection h1 with h1
      injection h1 with h1 h2
      subst h1 h2
      rcases ho.2 with ⟨rfl, hn⟩ | ⟨g, cap, cur, rfl, _, hg, hnc, _, hs, htake⟩
      · rw [nilc hn]
        exact RepP.nilsl c none
      · have hh := rep_sub (cap' := cap) (o := 0) hIJ hr htake hs hnc rfl (hJ g _ cap cur rfl hg) 0 es.length (by omega) (by omega) (by omega) (fun _ => by simp) (by simpa using hnc)
        rw [sub_all] at hh
        generalize hz : ((es.length : Int) - 0).toNat = z at hh
        have hz' : z = es.length := by omega
        subst hz'
        exact hh
    · simp only [e, decide_false, cond_false]
      exact keep
  | osub q lo hi =>
    simp only [CV.thaw, nbeq]
    by_cases e : q = r
    · subst e
      simp only [decide_true, cond_true]
      obtain ⟨v', c', h1, h0, hle, h2⟩ := h
      rw [hμ] at h1
      injection h1 with h1
      injection h1 with h1 h1'
      subst h1 h1'
      rcases ho.2 with ⟨rfl, hn⟩ | ⟨g, cap, cur, rfl, _, hg, hnc, _, hs, htake⟩
      · rcases h2 with ⟨_, h3, rfl⟩ | ⟨g, n, cap, o, cap', h3, _⟩
        · rw [nilc hn]
          simp only [sub, List.drop_nil, List.take_nil]
          exact RepP.nilsl c none
        · cases h3
      · rcases h2 with ⟨h3, _⟩ | ⟨g', n', cap1, o, cap', h3, hhi, rfl, hoo, hcap⟩
        · cases h3
        · injection h3 with h3 h4 h5
          injection h3 with h3
          injection h3 with h3
          subst h3 h4 h5
          exact rep_sub hIJ hr htake hs hnc rfl (hJ g _ cap cur rfl hg) lo hi h0 hle hhi hoo hcap
    · simp only [e, decide_false, cond_false]
      exact keep
  | ptrE q i off =>
    simp only [CV.thaw, nbeq]
    by_cases e : q = r
    · subst e
      simp only [decide_true, cond_true]
      obtain ⟨g, n, cap, c', h1, h0, hi, rfl⟩ := h
      rw [hμ] at h1
      injection h1 with h1
      injection h1 with h1 h1'
      subst h1 h1'
      rcases ho.2 with ⟨h2, _⟩ | ⟨g', cap', cur, h2, _, hg, hnc, _, hs, htake⟩
      · cases h2
      · injection h2 with h2 h3 h4
        injection h2 with h2
        injection h2 with h2
        subst h2 h3 h4
        have hh := rep_sub (cap' := cap) (o := 0) hIJ hr htake hs hnc rfl (hJ g _ cap cur rfl hg) 0 es.length (by omega) (by omega) (by omega) (fun _ => by simp) (by simpa using hnc)
        rw [sub_all] at hh
        generalize hz : ((es.length : Int) - 0).toNat = z at hh
        have hz' : z = es.length := by omega
        subst hz'
        cases hh with
        | nilsl => simp at hi; omega
        | sl _ _ _ _ _ f hcap hc hI hf => exact ⟨g, 0, f, hI, hc, hf, h0, hi, by simp⟩
    · simp only [e, decide_false, cond_false]
      exact keep
  | _ => exact keep
theorem RepG.thaw {X : Cx} {I J : Mem} {μ : Locs} {r c : Nat} {es : List PV} {w : World} {e : TypeId} {v : Value} {xs : List Value} (hIJ : MemLe I J) (hμ : μ r = some (.row v c)) (ho : w.ownsRow X.B e c v es.length xs) (hr : RowRep I c es xs)
    (hJ : ∀ g n cap cur, v = .slice (some ⟨g, 0, none⟩) n cap → w.heap[g]? = some (.cells cur e (0, 0)) → ∀ p, p < n * c → J g p = cur[p]?) {x : GV} {y : Value} (h : RepG I μ x y) : RepG J μ (x.map (CV.thaw r c es)) y := by
  cases x with
  | c x => exact RepC.thaw hIJ hμ ho hr hJ h
  | agg cs =>
    obtain ⟨vs, h1, h2, h3⟩ := h
    refine ⟨vs, h1, by simpa using h2, fun i v hv => ?_⟩
    rw [List.getElem?_map] at hv
    obtain ⟨u, hu, rfl⟩ := Option.map_eq_some_iff.1 hv
    exact ⟨(h3 i u hu).1.thaw hIJ hμ ho hr hJ, (h3 i u hu).2⟩
  | tup cs =>
    obtain ⟨vs, h1, h2, h3⟩ := h
    refine ⟨vs, h1, by simpa using h2, fun i v hv => ?_⟩
    rw [List.getElem?_map] at hv
    obtain ⟨u, hu, rfl⟩ := Option.map_eq_some_iff.1 hv
    exact (h3 i u hu).thaw hIJ hμ ho hr hJ
def NewI (X : Cx) (I J : Mem) : Prop := MemLe I J ∧ ∀ b o v, J b o = some v → I b o = some v ∨ X.S b ∨ X.w1.heap.size ≤ b
theorem NewI.refl (X : Cx) (I : Mem) : NewI X I I := ⟨MemLe.refl I, fun _ _ _ h => .inl h⟩
theorem NewI.trans {X : Cx} {I J K : Mem} (h : NewI X I J) (k : NewI X J K) : NewI X I K :=
  ⟨h.1.trans k.1, fun b o v hv => by
    rcases k.2 b o v hv with e | e
    · exact h.2 b o v e
    · exact .inr e⟩
theorem Sim.freeze {X : Cx} {n : Nat} {I : Mem} {μ : Locs} {st : St} {a : Act} {w : World} (h : Sim X n I μ st a w) (r : Nat) : ∃ J, NewI X I J ∧ Sim X n J μ (st.freeze X.E r) a w := by
  unfold St.freeze
  cases ho : look st.h r with
  | none => exact ⟨I, NewI.refl X I, h⟩
  | some o =>
    cases o with
    | box cs => exact ⟨I, NewI.refl X I, h⟩
    | bld s => exact ⟨I, NewI.refl X I, h⟩
    | row e es =>
      simp only [nbeq]
      by_cases he : e = X.E.tb
      · simp only [he, decide_true, cond_true]
        exact ⟨I, NewI.refl X I, h⟩
      · simp only [he, decide_false, cond_false]
        obtain ⟨v, xs, hμ, hown, hrep⟩ := h.h.ok r _ ho
        -- the memory
        obtain ⟨J, hNew, hJ, hJim, hJother⟩ : ∃ J, NewI X I J ∧ (∀ g n cap cur, v = .slice (some ⟨g, 0, none⟩) n cap → w.heap[g]? = some (.cells cur e (0, 0)) → ∀ p, p < n * (X.E.sz e) → J g p = cur[p]?) ∧ ImmOk X J w ∧
            (∀ b p, v.ownBlock ≠ some b → J b p = I b p) := by
          rcases hown.2 with ⟨rfl, hn⟩ | ⟨g, cap, cur, rfl, hB, hg, hnc, _, hs, htake⟩
          · exact ⟨I, NewI.refl X I, fun g n cap cur e1 => (by cases e1), h.im, fun _ _ _ => rfl⟩
          · have hI : ∀ p, I g p = none := h.h.imm r _ _ g ho hμ (by simp [Loc.blk, Value.ownBlock])
            refine ⟨thawI I g (es.length * X.E.sz e) cur, ⟨thawI_le hI, ?_⟩, ?_, ?_, ?_⟩
            · intro b o u hu
              unfold thawI at hu
              by_cases eb : b = g
              · subst eb
                exact .inr (h.h.own r _ _ b ho hμ (by simp [Loc.blk, Value.ownBlock]))
              · simp only [eb, if_false] at hu
                exact .inl hu
            · intro g' n' cap' cur' e1 hg' p hp
              injection e1 with e1 e2 e3
              injection e1 with e1
              injection e1 with e1
              subst e1 e2 e3
              rw [hg] at hg'
              injection hg' with hg'
              injection hg' with hg'
              subst hg'
              simp [thawI, hp]
            · intro b o u hu
              unfold thawI at hu
              by_cases eb : b = g
              · subst eb
                simp only [if_true] at hu
                split at hu
                · exact ⟨cur, e, (0, 0), hg, hu, .inr he⟩
                · cases hu
              · simp only [eb, if_false] at hu
                exact h.im b o u hu
            · intro b p hb
              have : b ≠ g := fun e => hb (by simp [Value.ownBlock, e])
              simp [thawI, this]
        have key : ∀ q p, look (St.map (CV.thaw r (X.E.sz e) es) { st with h := drop r st.h }).h q = some p → q ≠ r ∧ ∃ p', look st.h q = some p' ∧ p = p'.map (CV.thaw r (X.E.sz e) es) := by
          intro q p hp
          simp only [St.map, look_map, look_drop] at hp
          by_cases hq : q = r
          · simp [hq] at hp
          · simp only [hq, if_false] at hp
            obtain ⟨o', h1, h2⟩ := Option.map_eq_some_iff.1 hp
            exact ⟨hq, o', h1, h2.symm⟩
        refine ⟨J, hNew, h.size, h.defers, ?_, ⟨?_, ?_, ?_, ?_, ?_⟩, hJim, h.bw, h.fr, h.cx, h.base⟩
        · intro i x hx
          simp only [St.map, look_map] at hx
          obtain ⟨u, hu, rfl⟩ := Option.map_eq_some_iff.1 hx
          exact (h.t i u hu).thaw hNew.1 hμ hown hrep hJ
        · intro q p hp
          obtain ⟨hq, p', h1, rfl⟩ := key q p hp
          have hk := h.h.ok q p' h1
          cases p' with
          | box cs =>
            obtain ⟨b, arr, T, k1, k2, k3, k4, k5⟩ := hk
            refine ⟨b, arr, T, k1, k2, k3, k4, ⟨by simpa using k5.1, fun i x hx => ?_⟩⟩
            rw [List.getElem?_map] at hx
            obtain ⟨u, hu, rfl⟩ := Option.map_eq_some_iff.1 hx
            exact ⟨(k5.2 i u hu).1.thaw hNew.1 hμ hown hrep hJ, (k5.2 i u hu).2⟩
          | row e' es' => obtain ⟨v', xs', k1, k2, k3⟩ := hk; exact ⟨v', xs', k1, k2, k3.mono hNew.1⟩
          | bld s => exact hk
        · intro q q' p p' l l' b hp hp' hne hl hl' hb
          obtain ⟨hq, o1, h1, rfl⟩ := key q p hp
          obtain ⟨hq', o1', h1', rfl⟩ := key q' p' hp'
          exact h.h.apart q q' o1 o1' l l' b h1 h1' hne hl hl' hb
        · intro q p l b hp hl hb z
          obtain ⟨hq, o1, h1, rfl⟩ := key q p hp
          rw [hJother b z ?_]
          · exact h.h.imm q o1 l b h1 hl hb z
          · exact fun e1 => h.h.apart r q _ o1 _ l b ho h1 (fun e2 => hq e2.symm) hμ hl e1 hb
        · intro q p l b hp hl hb
          obtain ⟨hq, o1, h1, rfl⟩ := key q p hp
          exact h.h.own q o1 l b h1 hl hb
        · intro q q' p p' hp hp' hne hb
          obtain ⟨hq, o1, h1, rfl⟩ := key q p hp
          obtain ⟨hq', o1', h1', rfl⟩ := key q' p' hp'
          rw [Ob.map_isBld] at hb
          rw [Ob.map_isBld, Ob.map_isByte]
          exact h.h.alone q q' o1 o1' h1 h1' hne hb
theorem Sim.freezeAll {X : Cx} {n : Nat} {μ : Locs} {a : Act} {w : World} (rs : List Nat) : ∀ {I : Mem} {st : St}, Sim X n I μ st a w → ∃ J, NewI X I J ∧ Sim X n J μ (st.freezeAll X.E rs) a w := by
  induction rs with
  | nil => intro I st h; exact ⟨I, NewI.refl X I, h⟩
  | cons r rs ih =>
    intro I st h
    obtain ⟨J, hJ, h1⟩ := h.freeze r
    obtain ⟨K, hK, h2⟩ := ih h1
    exact ⟨K, hJ.trans hK, h2⟩
/-! ### Operands -/
theorem Sim.get {X : Cx} {n : Nat} {I : Mem} {μ : Locs} {st : St} {a : Act} {w : World} (h : Sim X n I μ st a w) (i : Nat) : RepG I μ (st.get i) (a.tmps.getD i undef) := by
  unfold St.get
  cases hl : look st.t i with
  | none => exact RepG.any _ _ _
  | some v => exact h.t i v hl
theorem rep_const (I : Mem) (μ : Locs) (v : Value) : RepG I μ (ofConst v) v := by
  cases v with
  | bool b => exact RepP.bool b
  | int k n => exact RepP.int k n
  | string s => exact RepP.str s.data.toList
  | pointer a => cases a <;> first | exact RepP.nilp | exact RepG.any _ _ _
  | nilIface => exact RepP.nilif
  | _ => exact RepG.any _ _ _
theorem Sim.ev {X : Cx} {n : Nat} {I : Mem} {μ : Locs} {st : St} {a : Act} {w : World} (h : Sim X n I μ st a w) (x : Operand) : RepG I μ (st.ev x) (a.eval x) := by
  cases x with
  | tmp t => exact h.get t
  | const v => exact rep_const I μ v
  | global g => rfl
  | func f => exact ⟨#[], rfl, rfl, fun j r hj => by simp at hj⟩
theorem Sim.evT {X : Cx} {n : Nat} {I : Mem} {μ : Locs} {st : St} {a : Act} {w : World} (h : Sim X n I μ st a w) (t : TypeId) (x : Operand) : RepG I μ (st.evT X.E t x) (a.eval x) := by
  unfold St.evT
  split
  · rfl
  · exact h.ev x
theorem pures_rep {I : Mem} {μ : Locs} : ∀ {cs : List CV} {ps : List PV} {vs : List Value}, pures cs = some ps → cs.length = vs.length → (∀ (i : Nat) v, cs[i]? = some v → RepC I μ v (vs.getD i undef)) →
    ps.length = vs.length ∧ ∀ i, i < ps.length → RepP I (ps.getD i .any) (vs.getD i undef)
  | [], ps, vs, hp, hl, hr => by
    simp only [pures, Option.some.injEq] at hp
    subst hp
    exact ⟨hl, fun i hi => by simp at hi⟩
  | v :: cs, ps, [], hp, hl, hr => by simp at hl
  | v :: cs, ps, x :: vs, hp, hl, hr => by
    simp only [pures] at hp
    cases h1 : v.pure? with
    | none => simp [h1] at hp
    | some y =>
      cases h2 : pures cs with
      | none => simp [h1, h2] at hp
      | some ys =>
        simp only [h1, h2, Option.some.injEq] at hp
        subst hp
        obtain ⟨k1, k2⟩ := pures_rep (vs := vs) h2 (by simpa using hl) (fun i u hu => by simpa using hr (i + 1) u (by simpa using hu))
        refine ⟨by simp [k1], fun i hi => ?_⟩
        cases i with
        | zero =>
          have h0 := hr 0 v (by simp)
          simp only [List.getD_cons_zero] at h0 ⊢
          cases v with
          | p z => simp only [CV.pure?, Option.some.injEq] at h1; subst h1; exact h0
          | nils c => simp only [CV.pure?, Option.some.injEq] at h1; subst h1; rw [show x = .slice none 0 0 from h0]; exact RepP.nilsl c none
          | fn f rs =>
            cases rs with
            | nil =>
              simp only [CV.pure?, Option.some.injEq] at h1
              subst h1
              obtain ⟨vs', e1, e2, _⟩ := h0
              have : vs' = #[] := Array.eq_empty_of_size_eq_zero e2
              subst this
              rw [e1]
              exact RepP.fn f
            | cons r rs => simp [CV.pure?] at h1
          | _ => simp [CV.pure?] at h1
        | succ i => simpa using k2 i (by simpa using hi)
theorem pureC_rep {I : Mem} {μ : Locs} {v : CV} {x : Value} {y : PV} (h : v.pure? = some y) (hr : RepC I μ v x) : RepP I y x := by
  obtain ⟨_, k⟩ := pures_rep (I := I) (μ := μ) (cs := [v]) (ps := [y]) (vs := [x]) (by simp [pures, h]) rfl (fun i u hu => by
    cases i with
    | zero => simp only [List.length_singleton, Nat.lt_add_one, List.getElem?_cons_zero, Option.some.injEq] at hu; subst hu; simpa using hr
    | succ i => simp at hu)
  simpa using k 0 (by simp)
theorem pure_rep {I : Mem} {μ : Locs} {v : GV} {x : Value} {y : PV} (h : v.pure? = some y) (hr : RepG I μ v x) : RepP I y x := by
  cases v with
  | c v => exact pureC_rep h hr
  | tup cs => simp [GV.pure?] at h
  | agg cs =>
    obtain ⟨vs, rfl, h2, h3⟩ := hr
    simp only [GV.pure?] at h
    obtain ⟨ps, hp, rfl⟩ := Option.map_eq_some_iff.1 h
    obtain ⟨k1, k2⟩ := pures_rep hp h2 (fun i u hu => (h3 i u hu).1)
    refine RepP.agg ps vs (by simpa using k1) (fun i hi => by rw [agetD]; exact k2 i hi) (fun i hi => ?_)
    rw [agetD]
    have hi' : i < cs.length := by omega
    exact (h3 i cs[i] (by simp [hi'])).2
section
variable {R : Type} {r : R}
theorem wP_inv {v : GV} {K : PV → Option R} (h : wP v K = some r) : ∃ x, v = .pv x ∧ K x = some r := by
  unfold wP at h
  split at h
  · exact ⟨_, rfl, h⟩
  · cases h
theorem wInt_inv {k : IntKind} {v : GV} {K : Int → Option R} (h : wInt k v K = some r) : ∃ n, v = .pv (.int k n) ∧ K n = some r := by
  obtain ⟨x, hv, h2⟩ := wP_inv h
  cases x with
  | int k' n =>
    simp only [isInt] at h2
    by_cases e : k' = k
    · subst e
      simp only [decide_true, cond_true] at h2
      exact ⟨n, hv, h2⟩
    · simp [e] at h2
  | _ => simp [isInt] at h2
theorem wStr_inv {v : GV} {K : List UInt8 → Option R} (h : wStr v K = some r) : ∃ s, v = .pv (.str s) ∧ K s = some r := by
  obtain ⟨x, hv, h2⟩ := wP_inv h
  cases x with
  | str s => exact ⟨s, hv, by simpa [isStr, strOf] using h2⟩
  | _ => simp [isStr] at h2
theorem wBool_inv {v : GV} {K : Bool → Option R} (h : wBool v K = some r) : ∃ b, v = .pv (.bool b) ∧ K b = some r := by
  obtain ⟨x, hv, h2⟩ := wP_inv h
  cases x with
  | bool b => exact ⟨b, hv, by simpa [isBool, boolOf] using h2⟩
  | _ => simp [isBool] at h2
structure PureStep (E : Env) (st st' : St) (x : Operand) (y : PV) : Prop where
  does : ∀ {X : Cx} {n : Nat} {I : Mem} {μ : Locs} {a : Act} {w : World}, X.E = E → Sim X n I μ st a w → ∃ J, NewI X I J ∧ Sim X n J μ st' a w ∧ RepP J y (a.eval x)
theorem wPure_inv {E : Env} {st : St} {t : TypeId} {x : Operand} {K : PV → St → Option R} (h : wPure E st t x K = some r) : ∃ y st', K y st' = some r ∧ PureStep E st st' x y := by
  unfold wPure at h
  simp only at h
  split at h
  · rename_i y hy
    refine ⟨y, _, h, ⟨?_⟩⟩
    rintro X n I μ a w rfl hs
    obtain ⟨J, hJ, h1⟩ := hs.freezeAll (st.evT X.E t x).rows
    exact ⟨J, hJ, h1, pure_rep hy (h1.evT t x)⟩
  · cases h
end
end Go.Dip
end
/- An ideal semantics of the model's code, part 6: types; what an operation does. -/
section
set_option linter.unusedVariables false
set_option linter.unusedSimpArgs false
namespace Go.Dip
def isFlat : TypeDesc → Bool
  | .struct _ => false
  | .array _ _ => false
  | _ => true
def ZeroRep (zs : List CV) (z : Value) : Prop := ∀ I μ, RepCs I μ zs z.cells.toList
structure EnvOk (P : Program) (E : Env) (tB : TypeId) : Prop where
  scalar : ∀ t, isScalar (E.ty t) = true → ∃ d i, P.underlying t = some d ∧ isFlat d = true ∧ P.info? t = some i ∧ i.size = 1 ∧ E.sz t = 1
  struct : ∀ t fs, E.ty t = .struct fs → ∃ Fs : Array Field, ∃ i, P.underlying t = some (.struct Fs) ∧ fs = Fs.toList.map (fun f => (f.offset, f.type)) ∧ P.info? t = some i ∧ i.size = E.sz t
  int : ∀ t k, E.ty t = .int k → P.underlying t = some (.int k)
  bool : ∀ t, E.ty t = .bool → P.underlying t = some .bool
  str : ∀ t, E.ty t = .str → P.underlying t = some .string
  slice : ∀ t e, E.ty t = .slice e → P.underlying t = some (.slice e) ∧ ∃ i z, P.info? e = some i ∧ i.size = E.sz e ∧ i.zero = some z ∧ z.cells.size = E.sz e ∧ 0 < E.sz e ∧ i.bytes ≤ 128 ∧ (E.sz e ≤ 64)
  ptr : ∀ t e, E.ty t = .ptr e → P.underlying t = some (.pointer e)
  iface : ∀ t, E.ty t = .iface → ∃ ms, P.underlying t = some (.interface ms)
  fits : ∀ s fs, E.ty s = .struct fs → ∀ f, f ∈ fs → f.1 + E.sz f.2 ≤ E.sz s ∧ (∃ i, P.info? f.2 = some i ∧ i.size = E.sz f.2 ∧ i.size ≠ 0) ∧ (isStruct (E.ty f.2) = true ∨ isScalar (E.ty f.2) = true)
  zero : ∀ t, isStruct (E.ty t) = true ∨ isScalar (E.ty t) = true → ∃ i z, P.info? t = some i ∧ i.zero = some z ∧ ZeroRep (zeroOf E 6 t) z ∧ (isStruct (E.ty t) = true → ∃ vs, z = .agg vs) ∧ (zeroOf E 6 t).length = E.sz t
  eqs : ∀ t, isStruct (E.ty t) = true → P.eqGuardType P.depth t = false ∧ P.stoodInHeld t = false ∧ ∀ Fs, P.underlying t = some (.struct Fs) → ∀ f, f ∈ Fs.toList → f.name ≠ "_"
  bld : ∀ t, E.ty t = .bld → t = tB ∧ ∃ i, P.info? t = some i ∧ i.zero = some (.agg #[.pointer none, .slice none 0 0])
  neB : tB ≠ E.tb
  tb : E.ty E.tb = .int .u8
  mixed : P.follows .mixedOrders = true
/-! ### Cells of plain values -/
theorem RepP.isAgg {I : Mem} {x : PV} {v : Value} {n : Nat} (h : RepP I x v) (hx : x.isAgg n = true) :
    ∃ vs : Array Value, v = .agg vs ∧ vs.size = n ∧ ∀ j, j < n → RepP I (pcell x j) (vs.toList.getD j undef) ∧ (vs.toList.getD j undef).oneCell' = true := by
  cases h with
  | agg cs vs hl h h1 =>
    have hn : cs.length = n := by simpa [PV.isAgg] using hx
    exact ⟨vs, rfl, by omega, fun j hj => ⟨by rw [← agetD]; exact h j (by omega), by rw [← agetD]; exact h1 j (by omega)⟩⟩
  | _ => simp [PV.isAgg] at hx
theorem RepP.isOne {I : Mem} {x : PV} {v : Value} (h : RepP I x v) (hx : x.isOne = true) : v.oneCell' = true ∧ v.cells = #[v] := by
  cases h <;> first | (simp [PV.isOne] at hx; done) | exact ⟨rfl, rfl⟩
theorem PV.one_cells {x : PV} (hx : x.isOne = true) : x.cells = [x] ∧ x.cnt = 1 := by
  cases x <;> first | (simp [PV.isOne] at hx; done) | exact ⟨rfl, rfl⟩
theorem RepC.one {I : Mem} {μ : Locs} {v : CV} {x : Value} (h : RepC I μ v x) (hv : ∀ y, v = .p y → y.isOne = true) (ho : ∀ r c, μ r = some (.row x c) → x.oneCell' = true ∧ x.cells = #[x]) : x.oneCell' = true ∧ x.cells = #[x] := by
  cases v with
  | p y => exact RepP.isOne h (hv y rfl)
  | nils c => rw [show x = .slice none 0 0 from h]; exact ⟨rfl, rfl⟩
  | orow r => obtain ⟨c, h1⟩ := h; exact ho r c h1
  | osub r a b =>
    obtain ⟨v, c, h1, _, _, h2⟩ := h
    rcases h2 with ⟨_, _, rfl⟩ | ⟨g, n, cap, o, cap', _, _, rfl, _⟩ <;> exact ⟨rfl, rfl⟩
  | ptr r o => rcases h with ⟨b, _, rfl⟩ | ⟨b, bs, _, _, rfl⟩ <;> exact ⟨rfl, rfl⟩
  | ptrE r i o => obtain ⟨g, n, cap, c, _, _, _, rfl⟩ := h; exact ⟨rfl, rfl⟩
  | iptr c es i o => obtain ⟨b, p, f, _, _, _, _, _, rfl⟩ := h; exact ⟨rfl, rfl⟩
  | fn f rs => obtain ⟨vs, rfl, _⟩ := h; exact ⟨rfl, rfl⟩
  | glob g => rw [show x = .pointer (some ⟨g, 0, none⟩) from h]; exact ⟨rfl, rfl⟩
def RowsOk (μ : Locs) : Prop := ∀ r v c, μ r = some (.row v c) → ∃ A n cap, v = .slice A n cap
theorem RowsOk.one {μ : Locs} (h : RowsOk μ) : ∀ r c x, μ r = some (.row x c) → x.oneCell' = true ∧ x.cells = #[x] := by
  intro r c x hx
  obtain ⟨A, n, cap, rfl⟩ := h r x c hx
  exact ⟨rfl, rfl⟩
theorem RowsOk.upd {μ : Locs} (h : RowsOk μ) (d : Nat) (l : Loc) (hl : ∀ v c, l = .row v c → ∃ A n cap, v = .slice A n cap) : RowsOk (upd μ d l) := by
  intro r v c hr
  unfold Dip.upd at hr
  split at hr
  · injection hr with hr; exact hl v c hr
  · exact h r v c hr
section
variable {R : Type} {r : R} {P : Program} {E : Env} {tB : TypeId}
theorem RepCs_of_isAgg {I : Mem} {μ : Locs} {x : PV} {v : Value} {n : Nat} (h : RepP I x v) (hx : x.isAgg n = true) : ∃ vs, v = .agg vs ∧ RepCs I μ ((List.range n).map fun j => .p (pcell x j)) vs.toList := by
  obtain ⟨vs, h1, h2, h3⟩ := h.isAgg hx
  refine ⟨vs, h1, by simp [h2], fun i u hu => ?_⟩
  have hi : i < n := by
    have := (List.getElem?_eq_some_iff.1 hu).1
    simpa using this
  have e : u = .p (pcell x i) := by
    rw [List.getElem?_map, List.getElem?_range hi] at hu
    simpa using hu.symm
  rw [e]
  exact h3 i hi
theorem wCells_inv (hE : EnvOk P E tB) {t : TypeId} {v : GV} {K : List CV → Option R} (h : wCells E t v K = some r) : ∃ cs, K cs = some r ∧ cs.length = E.sz t ∧ (isStruct (E.ty t) = true ∨ isScalar (E.ty t) = true) ∧ (∀ u, u ∈ cs → ∀ k, k ∈ u.keys → k ∈ v.keys) ∧
    ∀ {I : Mem} {μ : Locs} {x : Value}, RowsOk μ → RepG I μ v x → RepCs I μ cs x.cells.toList ∧ x.cells.size = E.sz t := by
  unfold wCells at h
  cases hs : isStruct (E.ty t)
  · rw [hs] at h
    cases hc : isScalar (E.ty t)
    · simp [hc] at h
    · simp only [hc, cond_false, cond_true] at h
      obtain ⟨_, _, _, _, _, _, hsz⟩ := hE.scalar t hc
      have one : ∀ u : CV, (∀ y, u = .p y → y.isOne = true) → v = .c u → ∀ {I : Mem} {μ : Locs} {x : Value}, RowsOk μ → RepG I μ v x → RepCs I μ [u] x.cells.toList ∧ x.cells.size = E.sz t := by
        rintro u hu rfl I μ x hr hx
        obtain ⟨h1, h2⟩ := RepC.one hx hu (fun q c hq => hr.one q c x hq)
        rw [h2, hsz]
        refine ⟨⟨rfl, fun i z hz => ?_⟩, rfl⟩
        cases i with
        | zero =>
          simp only [List.getElem?_cons_zero, Option.some.injEq] at hz
          subst hz
          exact ⟨hx, h1⟩
        | succ i => simp at hz
      split at h
      · rename_i y
        cases ho : y.isOne
        · simp [ho] at h
        · simp only [ho, cond_true] at h
          exact ⟨[.p y], h, by simp [hsz], .inr rfl, fun u hu k hk => by simp at hu; subst hu; simp [CV.keys] at hk, one _ (fun z hz => by injection hz with hz; subst hz; exact ho) rfl⟩
      · rename_i u hne
        exact ⟨[u], h, by simp [hsz], .inr rfl, fun u' hu k hk => by simp at hu; subst hu; exact hk, one u (fun z hz => absurd (by rw [hz]) (hne z)) rfl⟩
      · cases h
  · rw [hs] at h
    simp only [cond_true] at h
    split at h
    · rename_i y
      cases ho : y.isAgg (E.sz t)
      · simp [ho] at h
      · simp only [ho, cond_true] at h
        refine ⟨_, h, by simp, .inl rfl, fun u hu k hk => ?_, fun {I μ x} hr hx => ?_⟩
        · obtain ⟨j, _, rfl⟩ := List.mem_map.1 hu
          simp [CV.keys] at hk
        · obtain ⟨vs, rfl, h2⟩ := RepCs_of_isAgg (μ := μ) hx ho
          exact ⟨h2, by have := h2.1; simpa [Value.cells] using this.symm⟩
    · rename_i cs
      rw [nbeq] at h
      by_cases hl : cs.length = E.sz t
      · simp only [hl, decide_true, cond_true] at h
        refine ⟨cs, h, hl, .inl rfl, fun u hu k hk => ?_, fun {I μ x} hr hx => ?_⟩
        · simp only [GV.keys, List.mem_flatMap]
          exact ⟨u, hu, hk⟩
        · obtain ⟨vs, rfl, h2⟩ := hx
          exact ⟨h2, by have := h2.1; simp only [Value.cells]; simpa [hl] using this.symm⟩
      · simp [hl] at h
    · cases h
end
def Upon (P : Program) (o : Oper) (a : Act) (w : World) (Post : Value → World → Prop) : Prop :=
  ∀ (next : Act → World → Prop) (Q : Exit → Act → World → Prop), (∀ v w', Post v w' → next (a.put o.dst v) w') → o.wp P a w next Q
theorem Upon.of_run {P : Program} {o : Oper} {a : Act} {w w' : World} {v : Value} {Post : Value → World → Prop} (h : (execOp a.eval o).run P w = .ok (.value v) w') (hp : Post v w') : Upon P o a w Post := by
  intro next Q hn
  unfold Oper.wp
  rw [h, Oper.upon_value]
  exact hn v w' hp
theorem Upon.mono {P : Program} {o : Oper} {a : Act} {w : World} {Post Post' : Value → World → Prop} (h : Upon P o a w Post) (hp : ∀ v w', Post v w' → Post' v w') : Upon P o a w Post' :=
  fun next Q hn => h next Q fun v w' hv => hn v w' (hp v w' hv)
def Loc.isRow : Loc → Bool
  | .row _ _ => true
  | _ => false
def Keep (μ ν : Locs) : Prop := ∀ q l, 1000 ≤ q → q < 2000 → μ q = some l → l.isRow = false → ν q = some l
theorem Keep.refl (μ : Locs) : Keep μ μ := fun _ _ _ _ h _ => h
theorem Keep.trans {μ ν κ : Locs} (h : Keep μ ν) (k : Keep ν κ) : Keep μ κ := fun q l h1 h2 h3 h4 => k q l h1 h2 (h q l h1 h2 h3 h4) h4
theorem Keep.upd (μ : Locs) {d : Nat} (l : Loc) (hd : d < 1000 ∨ ∃ v c, μ d = some (.row v c)) : Keep μ (Dip.upd μ d l) := by
  intro q l' h1 h2 h3 h4
  unfold Dip.upd
  by_cases e : q = d
  · subst e
    rcases hd with hd | ⟨v, c, hd⟩
    · omega
    · rw [hd] at h3
      injection h3 with h3
      subst h3
      cases h4
  · rw [if_neg e]
    exact h3
def OpDoes (P : Program) (E : Env) (tB : TypeId) (W0 : World) (o : Oper) (st : St) (v : GV) (st' : St) : Prop :=
  ∀ {X : Cx} {n : Nat} {I : Mem} {μ : Locs} {a : Act} {w : World}, X.E = E → X.tB = tB → X.W0 = W0 → RowsOk μ → Sim X n I μ st a w →
    Upon P o a w fun x w' => ∃ J ν, NewI X I J ∧ (RowsOk ν ∧ Keep μ ν) ∧ Sim X n J ν st' a w' ∧ RepG J ν v x
def CalmDoes (P : Program) (E : Env) (tB : TypeId) (o : Oper) (st : St) (v : GV) : Prop :=
  ∀ {X : Cx} {n : Nat} {I : Mem} {μ : Locs} {a : Act} {w : World}, X.E = E → X.tB = tB → RowsOk μ → Sim X n I μ st a w → ∃ x, (execOp a.eval o).run P w = .ok (.value x) w ∧ RepG I μ v x
theorem CalmDoes.op {P : Program} {E : Env} {tB : TypeId} {W0 : World} {o : Oper} {st : St} {v : GV} (h : CalmDoes P E tB o st v) : OpDoes P E tB W0 o st v st := by
  intro X n I μ a w hE hB _ hr hs
  obtain ⟨x, h1, h2⟩ := h hE hB hr hs
  exact Upon.of_run h1 ⟨I, μ, NewI.refl X I, ⟨hr, Keep.refl μ⟩, hs, h2⟩
end Go.Dip
end
/- An ideal semantics of the model's code, part 7: the operations that change nothing. -/
section
set_option linter.unusedVariables false
set_option linter.unusedSimpArgs false
namespace Go.Dip
section
variable {R : Type} {r : R} {P : Program} {E : Env} {tB : TypeId}
theorem add_at (b o j : Nat) : (⟨b, o, none⟩ : Addr).add j = ⟨b, o + j, none⟩ := by unfold Addr.add; split <;> simp_all
theorem run_loadVar_s (hE : EnvOk P E tB) {t : TypeId} (ht : isScalar (E.ty t) = true) {ad : Addr} {v : Value} {w : World} (hc : w.cell? ad = some v) : (loadVar t ad).run P w = .ok v w := by
  obtain ⟨d, i, h1, h2, _⟩ := hE.scalar t ht
  cases d <;> simp [isFlat] at h2 <;> simp [loadVar, Go.isAgg, run_underlying h1, hc]
theorem run_loadVar_a (hE : EnvOk P E tB) {t : TypeId} {fs : List (Nat × TypeId)} (ht : E.ty t = .struct fs) {b o : Nat} {vs : List Value} {w : World} (hl : vs.length = E.sz t) (hc : ∀ (j : Nat) v, vs[j]? = some v → w.cell? ⟨b, o + j, none⟩ = some v) :
    (loadVar t ⟨b, o, none⟩).run P w = .ok (.agg vs.toArray) w := by
  obtain ⟨Fs, i, h1, h2, h3, h4⟩ := hE.struct t fs ht
  have hk := run_loadCells_list (P := P) w ⟨b, o, none⟩ vs (fun j v hv => by rw [add_at]; exact hc j v hv)
  rw [hl] at hk
  simp [loadVar, Go.isAgg, run_underlying h1, sizeOf, typeInfo, h3, h4, hk]
theorem isStruct_inv {k : TK} (h : isStruct k = true) : ∃ fs, k = .struct fs := by cases k <;> simp [isStruct] at h; exact ⟨_, rfl⟩
theorem allP_eq : ∀ {cs : List CV} {ps : List PV}, allP cs = some ps → cs = ps.map .p
  | [], ps, h => by simp [allP] at h; subst h; rfl
  | v :: cs, ps, h => by
    cases v with
    | p x =>
      simp only [allP] at h
      cases hc : allP cs with
      | none => simp [hc] at h
      | some qs =>
        simp only [hc, Option.some.injEq] at h
        subst h
        simp [allP_eq hc]
    | _ => simp [allP] at h
theorem mkAgg_rep {I : Mem} {μ : Locs} {cs : List CV} {vs : Array Value} (h : RepCs I μ cs vs.toList) : RepG I μ (mkAgg cs) (.agg vs) := by
  unfold mkAgg
  cases hp : allP cs with
  | none => exact ⟨vs, rfl, h⟩
  | some ps =>
    have e := allP_eq hp
    subst e
    have hl : ps.length = vs.size := by have := h.1; simpa using this
    refine RepP.agg ps vs hl (fun i hi => ?_) (fun i hi => ?_) <;> rw [agetD]
    · have := (h.2 i (.p ps[i]) (by simp [hi])).1
      rw [getD_lt hi]
      exact this
    · exact (h.2 i (.p ps[i]) (by simp [hi])).2
theorem RepCs.part {I : Mem} {μ : Locs} {cs : List CV} {vs : List Value} (h : RepCs I μ cs vs) (off n : Nat) : RepCs I μ ((cs.drop off).take n) ((vs.drop off).take n) := by
  refine ⟨by simp [h.1], fun i v hv => ?_⟩
  rw [List.getElem?_take] at hv
  split at hv
  · rename_i hi
    rw [List.getElem?_drop] at hv
    have := h.2 (off + i) v hv
    simpa [List.getD_eq_getElem?_getD, List.getElem?_take, List.getElem?_drop, hi] using this
  · cases hv
theorem run_loadAt (t : TypeId) (ad : Addr) (w : World) : (Instr.loadAt t (.pointer (some ad))).run P w = (loadVar t ad).run P w := by simp [Instr.loadAt, Instr.sureAddr]
theorem readP_inv (hE : EnvOk P E tB) {t : TypeId} {c : Nat} {e : PV} {off : Nat} {K : GV → Option R} (h : readP E t c e off K = some r) : ∃ v, K v = some r ∧ v.keys = [] ∧
    ∀ {I : Mem} {w : World} {b o : Nat} {f : Nat → Value}, e.cnt = c → (∀ j, j < c → RepP I (pcell e j) (f j) ∧ (f j).oneCell' = true ∧ w.cell? ⟨b, o + j, none⟩ = some (f j)) → ∀ μ, ∃ x, (loadVar t ⟨b, o + off, none⟩).run P w = .ok x w ∧ RepG I μ v x := by
  unfold readP at h
  cases hs : isStruct (E.ty t)
  · simp only [hs, cond_false] at h
    cases hc : isScalar (E.ty t) && Nat.blt off c
    · simp [hc] at h
    · simp only [hc, cond_true] at h
      simp only [Bool.and_eq_true] at hc
      have hlt : off < c := by simpa [Nat.blt_eq] using hc.2
      refine ⟨_, h, rfl, fun {I w b o f} hcnt hf μ => ?_⟩
      exact ⟨_, run_loadVar_s hE hc.1 (hf off hlt).2.2, (hf off hlt).1⟩
  · simp only [hs, cond_true] at h
    obtain ⟨fs, hfs⟩ := isStruct_inv hs
    cases hb : Nat.ble (off + E.sz t) c
    · simp [hb] at h
    · simp only [hb, cond_true] at h
      have hle : off + E.sz t ≤ c := Nat.le_of_ble_eq_true hb
      refine ⟨_, h, rfl, fun {I w b o f} hcnt hf μ => ?_⟩
      refine ⟨_, run_loadVar_a (vs := (List.range (E.sz t)).map fun j => f (off + j)) hE hfs (by simp) ?_, ?_⟩
      · intro j v hv
        have hj : j < E.sz t := by have := (List.getElem?_eq_some_iff.1 hv).1; simpa using this
        have e : v = f (off + j) := by
          rw [List.getElem?_map, List.getElem?_range hj] at hv
          simpa using hv.symm
        rw [e, ← (hf (off + j) (by omega)).2.2, Nat.add_assoc]
      · refine RepP.agg _ _ (by simp) (fun i hi => ?_) (fun i hi => ?_) <;> simp only [List.length_map, List.length_range] at hi <;> rw [agetD] <;> simp only [List.getD_eq_getElem?_getD, List.getElem?_map, List.getElem?_range hi, Option.map_some, Option.getD_some]
        · exact (hf (off + i) (by omega)).1
        · exact (hf (off + i) (by omega)).2.1
theorem cell_heap {w : World} {b o : Nat} {arr : Array Value} {T : TypeId} {fz : Nat × Nat} {v : Value} (h : w.heap[b]? = some (.cells arr T fz)) (ho : arr[o]? = some v) : w.cell? ⟨b, o, none⟩ = some v := by
  simp [World.cell?, h, ho]
theorem row_cell {w : World} {B e sz g n cap : Nat} {xs : List Value} (h : w.ownsRow B e sz (.slice (some ⟨g, 0, none⟩) n cap) n xs) {p : Nat} (hp : p < n * sz) : w.cell? ⟨g, p, none⟩ = some (xs.getD p undef) := by
  have hl : p < xs.length := by rw [h.1]; exact hp
  have := h.cells (g := g) rfl p xs[p] (by simp [hl])
  rw [add_at, Nat.zero_add] at this
  rw [this, getD_lt hl]
theorem evLoad_inv (hE : EnvOk P E tB) {st : St} {t : TypeId} {ad : GV} {K : GV → Option R} (h : evLoad E st t ad K = some r) : ∃ v, K v = some r ∧
    ∀ {X : Cx} {n : Nat} {I : Mem} {μ : Locs} {a : Act} {w : World} {x : Value}, X.E = E → RowsOk μ → Sim X n I μ st a w → RepG I μ ad x → ∃ y, (Instr.loadAt t x).run P w = .ok y w ∧ RepG I μ v y := by
  unfold evLoad at h
  split at h
  · rename_i q off
    split at h
    · rename_i cs ho
      have pt : ∀ {X : Cx} {n : Nat} {I : Mem} {μ : Locs} {a : Act} {w : World} {x : Value}, Sim X n I μ st a w → RepG I μ (.c (.ptr q off)) x → ∃ b arr T, x = .pointer (some ⟨b, off, none⟩) ∧ w.heap[b]? = some (.cells arr T (0, 0)) ∧ RepCs I μ cs arr.toList := by
        intro X n I μ a w x hs hx
        obtain ⟨b, arr, T, h1, _, h3, _, h5⟩ := hs.h.ok q _ ho
        rcases hx with ⟨b', h6, rfl⟩ | ⟨b', bs, h6, _⟩
        · rw [h1] at h6; injection h6 with h6; injection h6 with h6; subst h6
          exact ⟨b, arr, T, rfl, h3, h5⟩
        · rw [h1] at h6; injection h6 with h6; cases h6
      cases hst : isStruct (E.ty t)
      · simp only [hst, cond_false] at h
        cases hsc : isScalar (E.ty t)
        · simp [hsc] at h
        · simp only [hsc, cond_true] at h
          split at h
          · rename_i v hv
            refine ⟨_, h, fun {X n I μ a w x} _ _ hs hx => ?_⟩
            obtain ⟨b, arr, T, rfl, h3, h5⟩ := pt hs hx
            have h6 := (h5.2 off v hv).1
            have hlt : off < arr.toList.length := by rw [← h5.1]; exact (List.getElem?_eq_some_iff.1 hv).1
            refine ⟨arr.toList.getD off undef, ?_, h6⟩
            have hc : w.cell? ⟨b, off, none⟩ = some (arr.toList.getD off undef) := cell_heap h3 (by rw [getD_lt hlt]; simp)
            exact (run_loadAt t _ w).trans (run_loadVar_s hE hsc hc)
          · cases h
      · simp only [hst, cond_true] at h
        obtain ⟨fs, hfs⟩ := isStruct_inv hst
        cases hb : Nat.ble (off + E.sz t) cs.length
        · simp [hb] at h
        · simp only [hb, cond_true] at h
          have hle := Nat.le_of_ble_eq_true hb
          refine ⟨_, h, fun {X n I μ a w x} _ _ hs hx => ?_⟩
          obtain ⟨b, arr, T, rfl, h3, h5⟩ := pt hs hx
          have h6 := h5.part off (E.sz t)
          have hr := run_loadVar_a (w := w) (b := b) (o := off) (vs := (arr.toList.drop off).take (E.sz t)) hE hfs (by rw [List.length_take, List.length_drop, ← h5.1]; omega) (by
            intro j v hv
            rw [List.getElem?_take] at hv
            split at hv
            · rw [List.getElem?_drop] at hv
              exact cell_heap h3 (by simpa using hv)
            · cases hv)
          exact ⟨_, (run_loadAt t _ w).trans hr, mkAgg_rep (by simpa using h6)⟩
    · cases h
  · rename_i q i off
    split at h
    · rename_i e es ho
      obtain ⟨v, hK, hkeys, hr⟩ := readP_inv hE h
      refine ⟨v, hK, fun {X n I μ a w x} hX _ hs hx => ?_⟩
      subst hX
      obtain ⟨v', xs, h1, h2, h3⟩ := hs.h.ok q _ ho
      obtain ⟨g, m, cap, c, h4, h0, hi, rfl⟩ := hx
      rw [h1] at h4
      injection h4 with h4
      injection h4 with h4 h4'
      subst h4 h4'
      have hm : es.length = m := by
        rcases h2.2 with ⟨hh, _⟩ | ⟨g', cap', cur, hh, _⟩
        · cases hh
        · injection hh with _ hh _; exact hh.symm
      subst hm
      have hit : i.toNat < es.length := by omega
      have hrow := h3 i.toNat hit
      obtain ⟨y, hy1, hy2⟩ := hr (w := w) (b := g) (o := i.toNat * X.E.sz e) (f := fun j => xs.getD (i.toNat * X.E.sz e + j) undef) hrow.1 (fun j hj => ⟨(hrow.2 j hj).1, (hrow.2 j hj).2, row_cell h2 (by
        have := Nat.mul_le_mul_right (X.E.sz e) (show i.toNat + 1 ≤ es.length by omega)
        rw [Nat.add_mul] at this
        omega)⟩) μ
      exact ⟨y, (run_loadAt t _ w).trans hy1, hy2⟩
    · cases h
  · rename_i c es i off
    obtain ⟨v, hK, hkeys, hr⟩ := readP_inv hE h
    refine ⟨v, hK, fun {X n I μ a w x} hX _ hs hx => ?_⟩
    obtain ⟨b, o, f, h1, h2, h3, h0, hi, rfl⟩ := hx
    have hit : i.toNat < es.length := by omega
    obtain ⟨y, hy1, hy2⟩ := hr (w := w) (b := b) (o := o + i.toNat * c) (f := fun j => f i.toNat j) (h2 i.toNat hit) (fun j hj => by
      refine ⟨h3 i.toNat j hit hj, h1.h1 i.toNat j hit hj, ?_⟩
      obtain ⟨arr, T, fz, k1, k2, _⟩ := hs.im b _ _ (h1.hI i.toNat j hit hj)
      rw [Nat.add_assoc]
      exact cell_heap k1 k2) μ
    rw [Nat.add_assoc] at hy1
    exact ⟨y, (run_loadAt t _ w).trans hy1, hy2⟩
  · cases h
/-! ### Arithmetic and comparisons -/
theorem run_cmpI {op : BinOp} {a b : Int} {z : Bool} {w : World} (h : cmpI op a b = some z) : (Op.intCmp op a b).run P w = .ok (.bool z) w := by
  cases op <;> simp only [cmpI, Option.some.injEq] at h <;> first
    | (subst h; rfl)
    | cases h
theorem eqGuard_int (op : BinOp) (t : TypeId) (x y : Operand) (k k' : IntKind) (a b : Int) (w : World) : (eqGuard op t x y (.int k a) (.int k' b)).run P w = .ok () w := by
  cases op <;> simp [eqGuard]
theorem eqGuard_str (op : BinOp) (t : TypeId) (x y : Operand) (a b : ByteArray) (w : World) : (eqGuard op t x y (.string a) (.string b)).run P w = .ok () w := by
  cases op <;> simp [eqGuard]
theorem eqGuard_bool (op : BinOp) (t : TypeId) (x y : Operand) (a b : Bool) (w : World) : (eqGuard op t x y (.bool a) (.bool b)).run P w = .ok () w := by
  cases op <;> simp [eqGuard]
end
end Go.Dip
end
/- An ideal semantics of the model's code, part 8: operators, conversions, cuts, addresses. -/
section
set_option linter.unusedVariables false
set_option linter.unusedSimpArgs false
namespace Go.Dip
section
variable {R : Type} {r : R} {P : Program} {E : Env} {tB : TypeId}
theorem rep_int {I : Mem} {μ : Locs} {k : IntKind} {n : Int} {x : Value} (h : RepG I μ (.pv (.int k n)) x) : x = .int k n := by
  have h' : RepP I (.int k n) x := h
  cases h'; rfl
theorem rep_str {I : Mem} {μ : Locs} {s : List UInt8} {x : Value} (h : RepG I μ (.pv (.str s)) x) : x = .string ⟨s.toArray⟩ := by
  have h' : RepP I (.str s) x := h
  cases h'; rfl
theorem rep_bool {I : Mem} {μ : Locs} {b : Bool} {x : Value} (h : RepG I μ (.pv (.bool b)) x) : x = .bool b := by
  have h' : RepP I (.bool b) x := h
  cases h'; rfl
theorem run_arI {op : BinOp} {k : IntKind} {a b z : Int} {w : World} (h : arI op k a b = some z) : (binOp op 0 (.int k a) (.int k b)).run P w = .ok (.int k z) w ∧ ∀ t, binOp op t (.int k a) (.int k b) = binOp op 0 (.int k a) (.int k b) := by
  cases op <;> simp only [arI, Option.some.injEq] at h <;> first
    | (subst h; exact ⟨by simp [binOp, Op.intArith, Op.intBits], fun t => rfl⟩)
    | cases h
theorem wBool?_inv {b : Option Bool} {K : GV → Option R} (h : wBool? b K = some r) : ∃ z, b = some z ∧ K (.pv (.bool z)) = some r := by
  cases b with
  | none => simp [wBool?] at h
  | some z => exact ⟨z, rfl, h⟩
theorem bed {α : Type} [BEq α] [LawfulBEq α] [DecidableEq α] (a b : α) : (a == b) = decide (a = b) := by
  by_cases h : a = b <;> simp [h]
theorem run_cmpS {op : BinOp} {a b : List UInt8} {z : Bool} {w : World} (h : cmpS op a b = some z) : (Op.stringOp op ⟨a.toArray⟩ ⟨b.toArray⟩).run P w = .ok (.bool z) w := by
  cases op <;> simp only [cmpS, Option.some.injEq] at h <;> first
    | (subst h; simp only [Op.stringOp, ByteArray.toList_mk, bed]; rfl)
    | cases h
theorem part_run (hE : EnvOk P E tB) {t : TypeId} (ht : isScalar (E.ty t) = true) {vs : Array Value} {off : Nat} (ho : off < vs.size) (w : World) : (part t vs off).run P w = .ok (vs.toList.getD off undef) w := by
  obtain ⟨d, i, h1, h2, _⟩ := hE.scalar t ht
  obtain ⟨v, hv, he⟩ : ∃ v, vs[off]? = some v ∧ vs.toList.getD off undef = v := ⟨vs[off], by simp [ho], by rw [getD_lt (by simpa using ho)]; simp⟩
  rw [he]
  cases d <;> simp [isFlat] at h2 <;> simp [part, Go.isAgg, run_underlying h1, hv]
theorem wEq_inv (hE : EnvOk P E tB) {x y : PV} {n : Nat} : ∀ {Fs : List Field} {K : Bool → Option R}, wEq E (Fs.map fun f => (f.offset, f.type)) x y K = some r → (∀ f, f ∈ Fs → f.name ≠ "_" ∧ f.offset + E.sz f.type ≤ n) →
    ∃ z, K z = some r ∧ ∀ {I : Mem} {xs ys : Array Value} {w : World}, xs.size = n → ys.size = n → (∀ j, j < n → RepP I (pcell x j) (xs.toList.getD j undef)) → (∀ j, j < n → RepP I (pcell y j) (ys.toList.getD j undef)) →
      (Op.eqFields 9999 xs ys Fs).run P w = .ok z w
  | [], K, h, _ => ⟨true, h, fun _ _ _ _ => by simp [Op.eqFields]⟩
  | f :: Fs, K, h, hf => by
    have hf' : ∀ g, g ∈ Fs → g.name ≠ "_" ∧ g.offset + E.sz g.type ≤ n := fun g hg => hf g (by simp [hg])
    obtain ⟨hn, hfit⟩ := hf f (by simp)
    simp only [List.map_cons, wEq] at h
    split at h
    · rename_i hty
      have hsc : isScalar (E.ty f.type) = true := by rw [hty]; rfl
      obtain ⟨_, _, _, _, _, _, hsz⟩ := hE.scalar _ hsc
      obtain ⟨a, ha, h⟩ := wStr_inv h
      obtain ⟨b, hb, h⟩ := wStr_inv h
      obtain ⟨z, hz, hrun⟩ := wEq_inv hE h hf'
      injection ha with ha; injection ha with ha
      injection hb with hb; injection hb with hb
      refine ⟨_, hz, fun {I xs ys w} h1 h2 h3 h4 => ?_⟩
      have k1 := h3 f.offset (by omega)
      have k2 := h4 f.offset (by omega)
      rw [ha] at k1
      rw [hb] at k2
      have e1 := rep_str (μ := fun _ => none) k1
      have e2 := rep_str (μ := fun _ => none) k2
      simp only [Op.eqFields, hn, ne_eq, not_false_eq_true, if_true, Sem.run_bind, part_run hE hsc (show f.offset < xs.size by omega), part_run hE hsc (show f.offset < ys.size by omega), Result.andThen_ok, e1, e2, run_equalIn_string w 9998 f.type _ _ (hE.str _ hty), ByteArray.toList_mk]
      by_cases hab : a = b
      · subst hab
        simp [hrun h1 h2 h3 h4]
      · simp [hab]
    · rename_i k hty
      have hsc : isScalar (E.ty f.type) = true := by rw [hty]; rfl
      obtain ⟨_, _, _, _, _, _, hsz⟩ := hE.scalar _ hsc
      obtain ⟨a, ha, h⟩ := wInt_inv h
      obtain ⟨b, hb, h⟩ := wInt_inv h
      obtain ⟨z, hz, hrun⟩ := wEq_inv hE h hf'
      injection ha with ha; injection ha with ha
      injection hb with hb; injection hb with hb
      refine ⟨_, hz, fun {I xs ys w} h1 h2 h3 h4 => ?_⟩
      have k1 := h3 f.offset (by omega)
      have k2 := h4 f.offset (by omega)
      rw [ha] at k1
      rw [hb] at k2
      have e1 := rep_int (μ := fun _ => none) k1
      have e2 := rep_int (μ := fun _ => none) k2
      simp only [Op.eqFields, hn, ne_eq, not_false_eq_true, if_true, Sem.run_bind, part_run hE hsc (show f.offset < xs.size by omega), part_run hE hsc (show f.offset < ys.size by omega), Result.andThen_ok, e1, e2, run_equalIn_int w 9998 f.type _ _ _ _ (hE.int _ _ hty)]
      by_cases hab : a = b
      · subst hab
        simp [hrun h1 h2 h3 h4]
      · simp [hab]
    · rename_i hty
      have hsc : isScalar (E.ty f.type) = true := by rw [hty]; rfl
      obtain ⟨_, _, _, _, _, _, hsz⟩ := hE.scalar _ hsc
      obtain ⟨a, ha, h⟩ := wBool_inv h
      obtain ⟨b, hb, h⟩ := wBool_inv h
      obtain ⟨z, hz, hrun⟩ := wEq_inv hE h hf'
      injection ha with ha; injection ha with ha
      injection hb with hb; injection hb with hb
      refine ⟨_, hz, fun {I xs ys w} h1 h2 h3 h4 => ?_⟩
      have k1 := h3 f.offset (by omega)
      have k2 := h4 f.offset (by omega)
      rw [ha] at k1
      rw [hb] at k2
      have e1 := rep_bool (μ := fun _ => none) k1
      have e2 := rep_bool (μ := fun _ => none) k2
      simp only [Op.eqFields, hn, ne_eq, not_false_eq_true, if_true, Sem.run_bind, part_run hE hsc (show f.offset < xs.size by omega), part_run hE hsc (show f.offset < ys.size by omega), Result.andThen_ok, e1, e2, run_equalIn_bool' w 9998 f.type _ _ (hE.bool _ hty)]
      cases hab : (a == b)
      · simp
      · simp [hrun h1 h2 h3 h4]
    · cases h
theorem nilP_cases {v : GV} {b : Bool} {I : Mem} {μ : Locs} {x : Value} (h : nilP v = some b) (hx : RepG I μ v x) : ∃ A : Option Addr, x = .pointer A ∧ A.isNone = b := by
  unfold nilP at h
  split at h <;> first | (cases h; done) | (simp only [Option.some.injEq] at h; subst h)
  · have h' : RepP I .nilp x := hx; cases h'; exact ⟨none, rfl, rfl⟩
  · rcases hx with ⟨_, _, rfl⟩ | ⟨_, _, _, _, rfl⟩ <;> exact ⟨some _, rfl, rfl⟩
  · obtain ⟨_, _, _, _, _, _, _, rfl⟩ := hx; exact ⟨some _, rfl, rfl⟩
  · obtain ⟨_, _, _, _, _, _, _, _, rfl⟩ := hx; exact ⟨some _, rfl, rfl⟩
theorem nilI_cases {a : PV} {I : Mem} {μ : Locs} {x : Value} (h : isIf a = true) (hx : RepG I μ (.pv a) x) : (isNif a = true ∧ x = .nilIface) ∨ (isNif a = false ∧ ∃ t y, x = .iface t y) := by
  have h' : RepP I a x := hx
  cases h' with
  | nilif => exact .inl ⟨rfl, rfl⟩
  | someif t y => exact .inr ⟨rfl, t, y, rfl⟩
  | _ => simp [isIf] at h
theorem wNil_inv {op : BinOp} {x y : Option Bool} {K : GV → Option R} (h : wNil op x y K = some r) : ∃ a b z, x = some a ∧ y = some b ∧ (a || b) = true ∧ K (.pv (.bool z)) = some r ∧ ((op = .eql ∧ z = (a && b)) ∨ (op = .neq ∧ z = !(a && b))) := by
  unfold wNil at h
  split at h
  · rename_i a b
    cases hab : a || b
    · simp [hab] at h
    · simp only [hab, cond_true] at h
      split at h
      · exact ⟨a, b, _, rfl, rfl, hab, h, .inl ⟨rfl, rfl⟩⟩
      · exact ⟨a, b, _, rfl, rfl, hab, h, .inr ⟨rfl, rfl⟩⟩
      · cases h
  · cases h
end
end Go.Dip
end
/- An ideal semantics of the model's code, part 9: operators, cuts, addresses: what each does. -/
section
set_option linter.unusedVariables false
set_option linter.unusedSimpArgs false
namespace Go.Dip
section
variable {R : Type} {r : R} {P : Program} {E : Env} {tB : TypeId}
theorem str_append (a b : List UInt8) : (⟨a.toArray⟩ : ByteArray) ++ ⟨b.toArray⟩ = ⟨(a ++ b).toArray⟩ := by
  apply ByteArray.ext
  simp
theorem eqIn_ptr {t e : TypeId} (hu : P.underlying t = some (.pointer e)) (A B : Option Addr) (h : (A.isNone || B.isNone) = true) (d : Nat) (w : World) : (Op.equalIn (d + 1) t (.pointer A) (.pointer B)).run P w = .ok (A.isNone && B.isNone) w := by
  cases A <;> cases B <;> first
    | (simp at h; done)
    | simp [Op.equalIn, run_underlying hu]
theorem eqIn_iface {t : TypeId} {ms} (hu : P.underlying t = some (.interface ms)) (x y : Value) (a b : Bool) (hx : (a = true ∧ x = .nilIface) ∨ (a = false ∧ ∃ t y, x = .iface t y)) (hy : (b = true ∧ y = .nilIface) ∨ (b = false ∧ ∃ t z, y = .iface t z))
    (h : (a || b) = true) (d : Nat) (w : World) : (Op.equalIn (d + 1) t x y).run P w = .ok (a && b) w := by
  rcases hx with ⟨rfl, rfl⟩ | ⟨rfl, t1, y1, rfl⟩ <;> rcases hy with ⟨rfl, rfl⟩ | ⟨rfl, t2, y2, rfl⟩ <;> first
    | (simp at h; done)
    | simp [Op.equalIn, run_underlying hu]
theorem binOp_eq_ptr (t : TypeId) (A B : Option Addr) : binOp .eql t (.pointer A) (.pointer B) = (do pure (.bool (← Op.equalIn (9999 + 1) t (.pointer A) (.pointer B)))) := rfl
theorem binOp_ne_ptr (t : TypeId) (A B : Option Addr) : binOp .neq t (.pointer A) (.pointer B) = (do pure (.bool (!(← Op.equalIn (9999 + 1) t (.pointer A) (.pointer B))))) := rfl
theorem eqGuard_ptr (op : BinOp) (t : TypeId) (x y : Operand) (A B : Option Addr) (w : World) : (eqGuard op t x y (.pointer A) (.pointer B)).run P w = .ok () w := by
  cases op <;> simp [eqGuard]
theorem eqGuard_nil (op : BinOp) (t : TypeId) (x y : Operand) (w : World) (hc : (isConst x || isConst y) = true) : (eqGuard op t x y .nilIface .nilIface).run P w = .ok () w := by
  revert hc
  cases x <;> cases y <;> intro hc <;> first
    | (cases hc; done)
    | (cases op <;> simp [eqGuard])
def BinDoes (P : Program) (E : Env) (st : St) (op : BinOp) (t : TypeId) (x y : Operand) (v : GV) : Prop :=
  ∀ {X : Cx} {n : Nat} {I : Mem} {μ : Locs} {a : Act} {w : World}, X.E = E → Sim X n I μ st a w →
    ∃ z, (do eqGuard op t x y (a.eval x) (a.eval y); binOp op t (a.eval x) (a.eval y)).run P w = .ok z w ∧ RepG I μ v z
theorem evBin_inv (hE : EnvOk P E tB) {st : St} {op : BinOp} {t : TypeId} {x y : Operand} {K : GV → Option R} (h : evBin E st op t x y K = some r) : ∃ v, K v = some r ∧ BinDoes P E st op t x y v := by
  unfold evBin at h
  split at h
  · rename_i k hty
    obtain ⟨a, ha, h⟩ := wInt_inv h
    obtain ⟨b, hb, h⟩ := wInt_inv h
    have base : ∀ {X : Cx} {n : Nat} {I : Mem} {μ : Locs} {act : Act} {w : World}, X.E = E → Sim X n I μ st act w → act.eval x = .int k a ∧ act.eval y = .int k b := by
      intro X n I μ act w hX hs
      exact ⟨rep_int (ha ▸ hs.ev x), rep_int (hb ▸ hs.ev y)⟩
    split at h
    · by_cases hz : b = 0
      · simp [hz] at h
      · simp only [hz, decide_false, cond_false] at h
        refine ⟨_, h, fun {X n I μ act w} hX hs => ?_⟩
        obtain ⟨e1, e2⟩ := base hX hs
        rw [e1, e2]
        exact ⟨.int k (k.wrap (a.tdiv b)), by simp [eqGuard_int, binOp, Op.intDiv, hz], RepP.int _ _⟩
    · by_cases hz : b = 0
      · simp [hz] at h
      · simp only [hz, decide_false, cond_false] at h
        refine ⟨_, h, fun {X n I μ act w} hX hs => ?_⟩
        obtain ⟨e1, e2⟩ := base hX hs
        rw [e1, e2]
        exact ⟨.int k (a.tmod b), by simp [eqGuard_int, binOp, Op.intDiv, hz], RepP.int _ _⟩
    all_goals first
      | (split at h
         · rename_i z hz
           refine ⟨_, h, fun {X n I μ act w} hX hs => ?_⟩
           obtain ⟨e1, e2⟩ := base hX hs
           rw [e1, e2]
           obtain ⟨k1, k2⟩ := run_arI (w := w) (P := P) hz
           exact ⟨_, by simp only [Sem.run_bind, eqGuard_int, Result.andThen_ok, k2, k1], RepP.int _ _⟩
         · cases h)
      | (obtain ⟨z, hz, h⟩ := wBool?_inv h
         refine ⟨_, h, fun {X n I μ act w} hX hs => ?_⟩
         obtain ⟨e1, e2⟩ := base hX hs
         rw [e1, e2]
         refine ⟨_, ?_, RepP.bool z⟩
         have hc := run_cmpI (P := P) (w := w) hz
         have e : binOp op t (.int k a) (.int k b) = Op.intCmp op a b := by
           cases op <;> first | (simp [cmpI] at hz; done) | simp [binOp]
         rw [e]
         simp only [Sem.run_bind, eqGuard_int, Result.andThen_ok, hc])
  · rename_i hty
    obtain ⟨a, ha, h⟩ := wStr_inv h
    obtain ⟨b, hb, h⟩ := wStr_inv h
    have base : ∀ {X : Cx} {n : Nat} {I : Mem} {μ : Locs} {act : Act} {w : World}, X.E = E → Sim X n I μ st act w → act.eval x = .string ⟨a.toArray⟩ ∧ act.eval y = .string ⟨b.toArray⟩ := by
      intro X n I μ act w hX hs
      exact ⟨rep_str (ha ▸ hs.ev x), rep_str (hb ▸ hs.ev y)⟩
    split at h
    · by_cases hz : a.length + b.length ≤ LIM
      · simp only [hz, decide_true, cond_true] at h
        refine ⟨_, h, fun {X n I μ act w} hX hs => ?_⟩
        obtain ⟨e1, e2⟩ := base hX hs
        rw [e1, e2]
        refine ⟨.string ⟨(a ++ b).toArray⟩, ?_, RepP.str _⟩
        have hsum := run_string_add_sum (P := P) w ⟨a.toArray⟩ ⟨b.toArray⟩ (by
          have : a.length + b.length ≤ 1099511627776 := hz
          show a.toArray.size + b.toArray.size ≤ _
          simp only [List.size_toArray]
          omega)
        rw [str_append] at hsum
        simp only [Sem.run_bind, eqGuard_str, Result.andThen_ok]
        exact hsum
      · simp [hz] at h
    · obtain ⟨z, hz, h⟩ := wBool?_inv h
      refine ⟨_, h, fun {X n I μ act w} hX hs => ?_⟩
      obtain ⟨e1, e2⟩ := base hX hs
      rw [e1, e2]
      refine ⟨_, ?_, RepP.bool z⟩
      have hc := run_cmpS (P := P) (w := w) hz
      have e : binOp op t (.string ⟨a.toArray⟩) (.string ⟨b.toArray⟩) = Op.stringOp op ⟨a.toArray⟩ ⟨b.toArray⟩ := by
        cases op <;> first | (simp [cmpS] at hz; done) | simp [binOp]
      rw [e]
      simp only [Sem.run_bind, eqGuard_str, Result.andThen_ok, hc]
  · rename_i hty
    obtain ⟨a, ha, h⟩ := wBool_inv h
    obtain ⟨b, hb, h⟩ := wBool_inv h
    have base : ∀ {X : Cx} {n : Nat} {I : Mem} {μ : Locs} {act : Act} {w : World}, X.E = E → Sim X n I μ st act w → act.eval x = .bool a ∧ act.eval y = .bool b := by
      intro X n I μ act w hX hs
      exact ⟨rep_bool (ha ▸ hs.ev x), rep_bool (hb ▸ hs.ev y)⟩
    have hu := hE.bool t hty
    split at h
    · refine ⟨_, h, fun {X n I μ act w} hX hs => ?_⟩
      obtain ⟨e1, e2⟩ := base hX hs
      rw [e1, e2]
      exact ⟨.bool (a == b), by simp only [Sem.run_bind, eqGuard_bool, Result.andThen_ok, binOp, Op.equal, Op.maxDepth, run_equalIn_bool' w 9999 t a b hu, Sem.run_pure], RepP.bool _⟩
    · refine ⟨_, h, fun {X n I μ act w} hX hs => ?_⟩
      obtain ⟨e1, e2⟩ := base hX hs
      rw [e1, e2]
      exact ⟨.bool (!(a == b)), by simp only [Sem.run_bind, eqGuard_bool, Result.andThen_ok, binOp, Op.equal, Op.maxDepth, run_equalIn_bool' w 9999 t a b hu, Sem.run_pure], RepP.bool _⟩
    · cases h
  · rename_i fs hty
    obtain ⟨a, ha, h⟩ := wP_inv h
    obtain ⟨b, hb, h⟩ := wP_inv h
    cases hag : a.isAgg (E.sz t) && b.isAgg (E.sz t)
    · simp [hag] at h
    · simp only [hag, cond_true] at h
      simp only [Bool.and_eq_true] at hag
      obtain ⟨Fs, inf, hu, hfs, hi, his⟩ := hE.struct t fs hty
      obtain ⟨hg1, hg2, hg3⟩ := hE.eqs t (by rw [hty]; rfl)
      have hfo : P.fieldsOf t = Fs := by simp [Program.fieldsOf, hu]
      have hfit : ∀ f, f ∈ Fs.toList → f.name ≠ "_" ∧ f.offset + E.sz f.type ≤ E.sz t := fun f hf =>
        ⟨hg3 Fs hu f hf, (hE.fits t fs hty (f.offset, f.type) (by rw [hfs]; exact List.mem_map.2 ⟨f, hf, rfl⟩)).1⟩
      have fin : ∀ {K' : Bool → Option R}, wEq E fs a b K' = some r → ∃ z, K' z = some r ∧ ∀ {X : Cx} {n : Nat} {I : Mem} {μ : Locs} {act : Act} {w : World}, X.E = E → Sim X n I μ st act w →
          ∃ xs ys, act.eval x = .agg xs ∧ act.eval y = .agg ys ∧ (Op.equalIn 10000 t (.agg xs) (.agg ys)).run P w = .ok z w := by
        intro K' hK
        rw [hfs] at hK
        obtain ⟨z, hz, hrun⟩ := wEq_inv (n := E.sz t) hE hK hfit
        refine ⟨z, hz, fun {X n I μ act w} hX hs => ?_⟩
        have r1 : RepG I μ (.pv a) (act.eval x) := ha ▸ hs.ev x
        have r2 : RepG I μ (.pv b) (act.eval y) := hb ▸ hs.ev y
        obtain ⟨xs, e1, n1, c1⟩ := RepP.isAgg r1 hag.1
        obtain ⟨ys, e2, n2, c2⟩ := RepP.isAgg r2 hag.2
        refine ⟨xs, ys, e1, e2, ?_⟩
        rw [run_equalIn_struct w 9999 t xs ys (by rw [hfo]; exact hu) hg2, hfo]
        exact hrun n1 n2 (fun j hj => (c1 j hj).1) (fun j hj => (c2 j hj).1)
      split at h
      · obtain ⟨z, hz, hrun⟩ := fin h
        refine ⟨_, hz, fun {X n I μ act w} hX hs => ?_⟩
        obtain ⟨xs, ys, e1, e2, e3⟩ := hrun hX hs
        rw [e1, e2]
        exact ⟨.bool z, by simp only [Sem.run_bind, run_eqGuard_agg w _ t x y xs ys hg1, Result.andThen_ok, run_eql_struct, e3], RepP.bool _⟩
      · obtain ⟨z, hz, hrun⟩ := fin h
        refine ⟨_, hz, fun {X n I μ act w} hX hs => ?_⟩
        obtain ⟨xs, ys, e1, e2, e3⟩ := hrun hX hs
        rw [e1, e2]
        exact ⟨.bool (!z), by simp only [Sem.run_bind, run_eqGuard_agg w _ t x y xs ys hg1, Result.andThen_ok, run_neq_struct, e3], RepP.bool _⟩
      · cases h
  · rename_i e hty
    obtain ⟨a, b, z, ha, hb, hab, hK, hop⟩ := wNil_inv h
    have hu := hE.ptr t e hty
    refine ⟨_, hK, fun {X n I μ act w} hX hs => ?_⟩
    obtain ⟨A, e1, n1⟩ := nilP_cases ha (hs.ev x)
    obtain ⟨B, e2, n2⟩ := nilP_cases hb (hs.ev y)
    rw [e1, e2]
    subst n1 n2
    refine ⟨_, ?_, RepP.bool z⟩
    have he := eqIn_ptr (P := P) hu A B hab 9999 w
    rcases hop with ⟨rfl, rfl⟩ | ⟨rfl, rfl⟩
    · simp only [Sem.run_bind, eqGuard_ptr, Result.andThen_ok, binOp_eq_ptr, he, Sem.run_pure]
    · simp only [Sem.run_bind, eqGuard_ptr, Result.andThen_ok, binOp_ne_ptr, he, Sem.run_pure]
  · rename_i hty
    cases hc : isConst x || isConst y
    · simp [hc] at h
    · simp only [hc, cond_true] at h
      obtain ⟨a, ha, h⟩ := wP_inv h
      obtain ⟨b, hb, h⟩ := wP_inv h
      cases ht : isIf a && (isIf b && (isNif b || isNif a))
      · rw [ht] at h; exact absurd h (by simp)
      simp only [ht, cond_true] at h
      simp only [Bool.and_eq_true, Bool.or_eq_true] at ht
      obtain ⟨ms, hu⟩ := hE.iface t hty
      have hab : (isNif a || isNif b) = true := by rcases ht.2.2 with e | e <;> simp [e]
      obtain ⟨z, hK, hop⟩ : ∃ z, K (.pv (.bool z)) = some r ∧ ((op = .eql ∧ z = (isNif a && isNif b)) ∨ (op = .neq ∧ z = !(isNif a && isNif b))) := by
        split at h
        · exact ⟨_, h, .inl ⟨rfl, rfl⟩⟩
        · exact ⟨_, h, .inr ⟨rfl, rfl⟩⟩
        · cases h
      refine ⟨_, hK, fun {X n I μ act w} hX hs => ?_⟩
      have k1 := nilI_cases ht.1 (ha ▸ hs.ev x)
      have k2 := nilI_cases ht.2.1 (hb ▸ hs.ev y)
      have he := eqIn_iface (P := P) hu _ _ (isNif a) (isNif b) k1 k2 hab 9999 w
      have hg : (eqGuard op t x y (act.eval x) (act.eval y)).run P w = .ok () w := by
        rcases k1 with ⟨_, e1⟩ | ⟨_, t1, y1, e1⟩ <;> rcases k2 with ⟨_, e2⟩ | ⟨_, t2, y2, e2⟩ <;> rw [e1, e2]
        · exact eqGuard_nil op t x y w hc
        all_goals (rcases hop with ⟨rfl, _⟩ | ⟨rfl, _⟩ <;> simp [eqGuard])
      refine ⟨_, ?_, RepP.bool z⟩
      have hb' : binOp op t (act.eval x) (act.eval y) = (if op = .eql then (do pure (.bool (← Op.equalIn (9999 + 1) t (act.eval x) (act.eval y)))) else (do pure (.bool (!(← Op.equalIn (9999 + 1) t (act.eval x) (act.eval y)))))) := by
        rcases k1 with ⟨_, e1⟩ | ⟨_, t1, y1, e1⟩ <;> rcases k2 with ⟨_, e2⟩ | ⟨_, t2, y2, e2⟩ <;> rw [e1, e2] <;> rcases hop with ⟨rfl, _⟩ | ⟨rfl, _⟩ <;> rfl
      rw [hb']
      rcases hop with ⟨rfl, rfl⟩ | ⟨rfl, rfl⟩
      · simp only [Sem.run_bind, hg, Result.andThen_ok, if_true, he, Sem.run_pure]
      · simp only [Sem.run_bind, hg, Result.andThen_ok, reduceCtorEq, if_false, he, Sem.run_pure]
  · cases h
end
end Go.Dip
end
/- An ideal semantics of the model's code, part 10: cuts, addresses, fields, lengths. -/
section
set_option linter.unusedVariables false
set_option linter.unusedSimpArgs false
namespace Go.Dip
section
variable {R : Type} {r : R} {P : Program} {E : Env} {tB : TypeId}
theorem wOptInt_inv {st : St} {x : Option Operand} {z : Int} {K : Int → Option R} (h : wOptInt st x z K = some r) : ∃ l, K l = some r ∧ ((x = none ∧ l = z) ∨ ∃ y, x = some y ∧ st.ev y = .pv (.int .i64 l)) := by
  cases x with
  | none => exact ⟨z, h, .inl ⟨rfl, rfl⟩⟩
  | some y =>
    obtain ⟨n, hn, hk⟩ := wInt_inv h
    exact ⟨n, hk, .inr ⟨y, rfl, hn⟩⟩
def Bound (z : Int) (x : Option Value) (l : Int) : Prop := (x = none ∧ l = z) ∨ x = some (.int .i64 l)
theorem Sim.bound {X : Cx} {n : Nat} {I : Mem} {μ : Locs} {st : St} {a : Act} {w : World} (hs : Sim X n I μ st a w) {x : Option Operand} {z l : Int} (h : (x = none ∧ l = z) ∨ ∃ y, x = some y ∧ st.ev y = .pv (.int .i64 l)) : Bound z (x.map a.eval) l := by
  rcases h with ⟨rfl, rfl⟩ | ⟨y, rfl, hy⟩
  · exact .inl ⟨rfl, rfl⟩
  · exact .inr (by simp [rep_int (hy ▸ hs.ev y)])
theorem inR_inv {l h n : Int} (hh : inR l h n = true) : 0 ≤ l ∧ l ≤ h ∧ h ≤ n := by
  simp only [inR, Bool.and_eq_true, decide_eq_true_eq] at hh
  exact ⟨hh.1, hh.2.1, hh.2.2⟩
theorem run_bounds {b : Bool} {len cap : Nat} {lo hi : Option Value} {l h : Int} {w : World} (hl : Bound 0 lo l) (hh : Bound len hi h) (hr : 0 ≤ l ∧ l ≤ h ∧ h ≤ (len : Int)) (hc : len ≤ cap) :
    (Instr.sliceBounds b len cap lo hi none).run P w = .ok (l.toNat, h.toNat, cap) w := by
  obtain ⟨h0, h1, h2⟩ := hr
  have h3 : h ≤ (cap : Int) := by omega
  have h4 : 0 ≤ h := by omega
  have h5 : max h 0 = h := by omega
  rcases hl with ⟨rfl, rfl⟩ | rfl <;> rcases hh with ⟨rfl, rfl⟩ | rfl
  · simp [Instr.sliceBounds]
  · simp [Instr.sliceBounds, Instr.sliceBound, asIntOf, h3, h4]
  · simp [Instr.sliceBounds, Instr.sliceBound, asIntOf, h0, h1]
  · simp [Instr.sliceBounds, Instr.sliceBound, asIntOf, h3, h4, h0, h5, h1]
theorem sub_extract (s : List UInt8) (l h : Nat) (h1 : l ≤ h) (h2 : h ≤ s.length) : (⟨s.toArray⟩ : ByteArray).extract l h = ⟨((s.drop l).take (h - l)).toArray⟩ := by
  apply ByteArray.ext
  simp [ByteArray.data_extract]
theorem toNat_sub' {l h : Int} (h0 : 0 ≤ l) (h1 : l ≤ h) : (h - l).toNat = h.toNat - l.toNat := by omega
theorem run_cut_str (hE : EnvOk P E tB) {t : TypeId} (ht : E.ty t = .str) {s : List UInt8} {lo hi : Option Value} {l h : Int} {w : World} (hl : Bound 0 lo l) (hh : Bound s.length hi h) (hr : 0 ≤ l ∧ l ≤ h ∧ h ≤ (s.length : Int)) :
    (Instr.sliceAt t (.string ⟨s.toArray⟩) lo hi none).run P w = .ok (.string ⟨(sub s l h).toArray⟩) w := by
  have hu := hE.str t ht
  have hb := run_bounds (P := P) (b := false) (w := w) (len := s.length) (cap := s.length) hl hh hr (Nat.le_refl _)
  have he := sub_extract s l.toNat h.toNat (by omega) (by omega)
  have hsz : (⟨s.toArray⟩ : ByteArray).size = s.length := by simp [ByteArray.size]
  simp only [Instr.sliceAt, Sem.run_bind, run_underlying hu, Result.andThen_ok, Instr.slice]
  simp only [Option.isSome_none, Bool.false_eq_true, if_false, hsz, Sem.run_bind, hb, Result.andThen_ok, Sem.run_pure, he, sub, toNat_sub' hr.1 hr.2.1]
theorem run_cut_slice (hE : EnvOk P E tB) {t e : TypeId} (ht : E.ty t = .slice e) {A : Option Addr} {len cap : Nat} {lo hi : Option Value} {l h : Int} {w : World} (hl : Bound 0 lo l) (hh : Bound len hi h) (hr : 0 ≤ l ∧ l ≤ h ∧ h ≤ (len : Int)) (hc : len ≤ cap) :
    (Instr.sliceAt t (.slice A len cap) lo hi none).run P w = .ok (.slice (if cap = l.toNat then A else A.map (·.add (l.toNat * E.sz e))) (h - l).toNat (cap - l.toNat)) w := by
  obtain ⟨hu, i, z, hi1, hi2, _⟩ := hE.slice t e ht
  have hb := run_bounds (P := P) (b := true) (w := w) (len := len) (cap := cap) hl hh hr hc
  simp only [Instr.sliceAt, Sem.run_bind, run_underlying hu, Result.andThen_ok, Instr.slice, hb, sizeOf, typeInfo, run_program, hi1, Sem.run_pure, hi2, toNat_sub' hr.1 hr.2.1]
theorem rep_cut {I : Mem} {c : Nat} {es : List PV} {v : Value} {l h : Int} (hv : RepP I (.sl c es) v) (hr : 0 ≤ l ∧ l ≤ h ∧ h ≤ (es.length : Int)) : ∃ A len cap, v = .slice A len cap ∧ len = es.length ∧ len ≤ cap ∧
    RepP I (.sl c (sub es l h)) (.slice (if cap = l.toNat then A else A.map (·.add (l.toNat * c))) (h - l).toNat (cap - l.toNat)) := by
  obtain ⟨h0, h1, h2⟩ := hr
  cases hv with
  | nilsl _ a =>
    refine ⟨a, 0, 0, rfl, rfl, Nat.le_refl _, ?_⟩
    have e1 : l = 0 := by simp at h2; omega
    have e2 : h = 0 := by simp at h2; omega
    subst e1 e2
    exact RepP.nilsl c a
  | sl _ _ b o cap f hcap hc hI hf =>
    refine ⟨some ⟨b, o, none⟩, es.length, cap, rfl, rfl, hcap, ?_⟩
    have hlen := sub_length es l h h0 h1 h2
    obtain ⟨o', ho', ho⟩ : ∃ o', (if cap = l.toNat then some (⟨b, o, none⟩ : Addr) else (some (⟨b, o, none⟩ : Addr)).map (·.add (l.toNat * c))) = some ⟨b, o', none⟩ ∧ (l < h → o' = o + l.toNat * c) := by
      by_cases hcl : cap = l.toNat
      · exact ⟨o, by simp [hcl], fun hlt => by omega⟩
      · exact ⟨o + l.toNat * c, by simp [hcl, add_at], fun _ => rfl⟩
    rw [ho', ← hlen]
    refine RepP.sl c _ b o' _ (fun i j => f (l.toNat + i) j) (by omega) ?_ ⟨?_, ?_⟩ ?_
    · intro i hi
      rw [sub_getD es l h .any i h0 h2 (by omega)]
      exact hc _ (by omega)
    · intro i j hi hj
      rw [ho (by omega)]
      have := hI.hI (l.toNat + i) j (by omega) hj
      rw [Nat.add_mul] at this
      rw [← this]
      congr 1
      omega
    · intro i j hi hj
      exact hI.h1 _ j (by omega) hj
    · intro i j hi hj
      rw [sub_getD es l h .any i h0 h2 (by omega)]
      exact hf _ j (by omega) hj
theorem isSl_inv {c : Nat} {v : PV} (h : isSl c v = true) : v = .sl c (slOf v) := by
  cases v with
  | sl c' es =>
    simp only [isSl, nbeq, decide_eq_true_eq] at h
    subst h; rfl
  | _ => simp [isSl] at h
def ValDoes (P : Program) (E : Env) (st : St) (run : Act → Sem Value) (v : GV) : Prop :=
  ∀ {X : Cx} {n : Nat} {I : Mem} {μ : Locs} {a : Act} {w : World}, X.E = E → RowsOk μ → Sim X n I μ st a w → ∃ x, (run a).run P w = .ok x w ∧ RepG I μ v x
theorem evSlice_inv (hE : EnvOk P E tB) {st : St} {t : TypeId} {x : Operand} {lo hi : Option Operand} {K : GV → Option R} (h : evSlice E st t x lo hi K = some r) :
    ∃ v, K v = some r ∧ ValDoes P E st (fun a => Instr.sliceAt t (a.eval x) (lo.map a.eval) (hi.map a.eval) none) v := by
  unfold evSlice at h
  split at h
  · rename_i ht
    obtain ⟨s, hs, h⟩ := wStr_inv h
    obtain ⟨l, h, hl⟩ := wOptInt_inv h
    obtain ⟨u, h, hu⟩ := wOptInt_inv h
    cases hr : inR l u s.length
    · simp [hr] at h
    · simp only [hr, cond_true] at h
      refine ⟨_, h, fun {X n I μ a w} hX hro hsim => ?_⟩
      have hx := hsim.ev x
      rw [hs] at hx
      dsimp only
      rw [rep_str hx]
      exact ⟨_, run_cut_str hE ht (hsim.bound hl) (hsim.bound hu) (inR_inv hr), RepP.str _⟩
  · rename_i e ht
    split at h
    · rename_i v hv
      cases hsl : isSl (E.sz e) v
      · simp [hsl] at h
      · simp only [hsl, cond_true] at h
        obtain ⟨l, h, hl⟩ := wOptInt_inv h
        obtain ⟨u, h, hu⟩ := wOptInt_inv h
        cases hr : inR l u (slOf v).length
        · simp [hr] at h
        · simp only [hr, cond_true] at h
          refine ⟨_, h, fun {X n I μ a w} hX hro hsim => ?_⟩
          have hrep := hsim.ev x
          rw [hv, isSl_inv hsl] at hrep
          obtain ⟨A, len, cap, e1, e2, e3, e4⟩ := rep_cut hrep (inR_inv hr)
          dsimp only
          rw [e1]
          refine ⟨_, run_cut_slice hE ht (hsim.bound hl) (by rw [e2]; exact hsim.bound hu) (by rw [e2]; exact inR_inv hr) e3, e4⟩
    · rename_i q hq
      split at h
      · rename_i e' es ho
        rw [nbeq] at h
        by_cases hsz : E.sz e' = E.sz e
        · simp only [hsz, decide_true, cond_true] at h
          obtain ⟨l, h, hl⟩ := wOptInt_inv h
          obtain ⟨u, h, hu⟩ := wOptInt_inv h
          cases hr : inR l u es.length
          · simp [hr] at h
          · simp only [hr, cond_true] at h
            refine ⟨_, h, fun {X n I μ a w} hX hro hsim => ?_⟩
            subst hX
            obtain ⟨v, xs, h1, h2, h3⟩ := hsim.h.ok q _ ho
            obtain ⟨c, h4⟩ : ∃ c, μ q = some (.row (a.eval x) c) := by
              have hx := hsim.ev x
              rw [hq] at hx
              exact hx
            dsimp only
            rw [h1] at h4
            injection h4 with h4
            injection h4 with h4 h4'
            obtain ⟨r0, r1, r2⟩ := inR_inv hr
            rcases h2.2 with ⟨e1, e2⟩ | ⟨g, cap, cur, e1, _, _, hnc, _⟩
            · rw [← h4, e1]
              have hz : es.length = 0 := e2
              have eu : u = 0 := by omega
              have el : l = 0 := by omega
              subst eu el
              refine ⟨_, run_cut_slice (len := 0) (cap := 0) hE ht (hsim.bound hl) (by simpa [hz] using hsim.bound hu) ⟨by omega, by omega, by omega⟩ (Nat.le_refl _), ?_⟩
              exact ⟨v, _, h1, by omega, by omega, .inl ⟨e1, rfl, rfl⟩⟩
            · rw [← h4, e1]
              refine ⟨_, run_cut_slice (len := es.length) (cap := cap) hE ht (hsim.bound hl) (hsim.bound hu) ⟨r0, r1, r2⟩ hnc, ?_⟩
              refine ⟨v, _, h1, r0, r1, .inr ?_⟩
              by_cases hcl : cap = l.toNat
              · exact ⟨g, es.length, cap, 0, cap - l.toNat, e1, r2, by simp [hcl], fun hlt => by omega, by omega⟩
              · exact ⟨g, es.length, cap, l.toNat * X.E.sz e', cap - l.toNat, e1, r2, by simp [hcl, add_at, hsz], fun _ => rfl, by omega⟩
        · simp [hsz] at h
      · cases h
    · cases h
  · cases h
end
end Go.Dip
end
/- An ideal semantics of the model's code, part 11: addresses, fields, indexes, lengths, struct literals. -/
section
set_option linter.unusedVariables false
set_option linter.unusedSimpArgs false
namespace Go.Dip
section
variable {R : Type} {r : R} {P : Program} {E : Env} {tB : TypeId}
def Val1 (P : Program) (E : Env) (st : St) (v0 : GV) (run : Value → Sem Value) (v : GV) : Prop :=
  ∀ {X : Cx} {n : Nat} {I : Mem} {μ : Locs} {a : Act} {w : World} {x : Value}, X.E = E → RowsOk μ → Sim X n I μ st a w → RepG I μ v0 x → ∃ y, (run x).run P w = .ok y w ∧ RepG I μ v y
theorem fieldOff_inv (hE : EnvOk P E tB) {s : TypeId} {f : Nat} {K : Nat → TypeId → Option R} (h : fieldOff E s f K = some r) : ∃ fs, ∃ Fs : Array Field, ∃ F : Field, ∃ i, E.ty s = .struct fs ∧ P.underlying s = some (.struct Fs) ∧ Fs[f]? = some F ∧ K F.offset F.type = some r ∧
    P.info? F.type = some i ∧ i.size = E.sz F.type ∧ i.size ≠ 0 ∧ F.offset + E.sz F.type ≤ E.sz s ∧ (isStruct (E.ty F.type) = true ∨ isScalar (E.ty F.type) = true) := by
  unfold fieldOff at h
  split at h
  · rename_i fs ht
    obtain ⟨Fs, i, hu, hfs, _⟩ := hE.struct s fs ht
    split at h
    · rename_i x hx
      rw [hfs, List.getElem?_map] at hx
      obtain ⟨F, hF, e⟩ := Option.map_eq_some_iff.1 hx
      subst e
      have hm : (F.offset, F.type) ∈ fs := by rw [hfs]; exact List.mem_map.2 ⟨F, List.mem_of_getElem? hF, rfl⟩
      obtain ⟨k1, ⟨j, k2, k3, k4⟩, k5⟩ := hE.fits s fs ht _ hm
      exact ⟨fs, Fs, F, j, ht, hu, by simpa using hF, h, k2, k3, k4, k1, k5⟩
    · cases h
  · cases h
theorem evAddr_inv (hE : EnvOk P E tB) {st : St} {s : TypeId} {f : Nat} {v0 : GV} {K : GV → Option R} (h : evAddr E st s f v0 K = some r) : ∃ v, K v = some r ∧ v.keys = v0.keys ∧ Val1 P E st v0 (fun x => Instr.fieldAt s x f) v := by
  unfold evAddr at h
  have h0 := fieldOff_inv hE h
  clear h
  obtain ⟨fs, Fs, F, i, ht, hu, hF, h, hi, hi2, hi3, _, _⟩ := h0
  have hrun : ∀ (b o : Nat) (w : World), (Instr.fieldAt s (.pointer (some ⟨b, o, none⟩)) f).run P w = .ok (.pointer (some ⟨b, o + F.offset, none⟩)) w := by
    intro b o w
    simp [Instr.fieldAt, run_underlying hu, hF, Instr.sureAddr, fieldPlace, sizeOf, typeInfo, hi, hi3, add_at]
  split at h
  · rename_i q off
    split at h
    · rename_i cs ho
      refine ⟨_, h, rfl, fun {X n I μ a w x} hX hr hs hx => ?_⟩
      obtain ⟨b', _, _, k1, _⟩ := hs.h.ok q _ ho
      rcases hx with ⟨b, h1, rfl⟩ | ⟨b, bs, h1, h2, rfl⟩
      · exact ⟨_, hrun _ _ w, .inl ⟨b, h1, rfl⟩⟩
      · rw [k1] at h1; injection h1 with h1; cases h1
    · cases h
  · refine ⟨_, h, rfl, fun {X n I μ a w x} hX hr hs hx => ?_⟩
    obtain ⟨g, m, cap, c, h1, h2, h3, rfl⟩ := hx
    exact ⟨_, hrun _ _ w, g, m, cap, c, h1, h2, h3, by rw [Nat.add_assoc]⟩
  · refine ⟨_, h, rfl, fun {X n I μ a w x} hX hr hs hx => ?_⟩
    obtain ⟨b, o, f', h1, h2, h3, h4, h5, rfl⟩ := hx
    exact ⟨_, hrun _ _ w, b, o, f', h1, h2, h3, h4, h5, by simp only [Nat.add_assoc]⟩
  · cases h
theorem RepCs.get {I : Mem} {μ : Locs} {cs : List CV} {vs : List Value} (h : RepCs I μ cs vs) {j : Nat} {v : CV} (hv : cs[j]? = some v) : RepC I μ v (vs.getD j undef) ∧ j < vs.length :=
  ⟨(h.2 j v hv).1, by rw [← h.1]; exact (List.getElem?_eq_some_iff.1 hv).1⟩
theorem run_part_a (hE : EnvOk P E tB) {t : TypeId} {fs : List (Nat × TypeId)} (ht : E.ty t = .struct fs) {vs : Array Value} {off : Nat} {w : World} : (part t vs off).run P w = .ok (.agg (vs.extract off (off + E.sz t))) w := by
  obtain ⟨Fs, i, h1, h2, h3, h4⟩ := hE.struct t fs ht
  simp [part, Go.isAgg, run_underlying h1, sizeOf, typeInfo, h3, h4]
theorem extract_toList (vs : Array Value) (off n : Nat) : (vs.extract off (off + n)).toList = (vs.toList.drop off).take n := by
  simp [Array.toList_extract, List.extract_eq_take_drop]
theorem evField_inv (hE : EnvOk P E tB) {st : St} {s : TypeId} {f : Nat} {v0 : GV} {K : GV → Option R} (h : evField E s f v0 K = some r) : ∃ v, K v = some r ∧ Val1 P E st v0 (fun x => Instr.field s x f) v := by
  unfold evField at h
  have h0 := fieldOff_inv hE h
  clear h
  obtain ⟨fs, Fs, F, i, ht, hu, hF, h, hi, hi2, hi3, hfit, hcl⟩ := h0
  have hrun : ∀ (vs : Array Value) (w : World), (Instr.field s (.agg vs) f).run P w = (part F.type vs F.offset).run P w := by
    intro vs w
    simp [Instr.field, run_underlying hu, hF, asAgg]
  split at h
  · rename_i x
    cases hag : x.isAgg (E.sz s)
    · simp [hag] at h
    · simp only [hag, cond_true] at h
      cases hst : isStruct (E.ty F.type)
      · simp only [hst, cond_false] at h
        cases hsc : isScalar (E.ty F.type)
        · simp [hsc] at h
        · simp only [hsc, cond_true] at h
          refine ⟨_, h, fun {X n I μ a w y} hX hr hs hx => ?_⟩
          obtain ⟨vs, rfl, hn, hc⟩ := RepP.isAgg hx hag
          obtain ⟨_, _, _, _, _, _, hsz⟩ := hE.scalar _ hsc
          exact ⟨_, (hrun vs w).trans (part_run hE hsc (by omega) w), (hc F.offset (by omega)).1⟩
      · simp only [hst, cond_true] at h
        obtain ⟨gs, hgs⟩ := isStruct_inv hst
        refine ⟨_, h, fun {X n I μ a w y} hX hr hs hx => ?_⟩
        obtain ⟨vs, rfl, hn, hc⟩ := RepP.isAgg hx hag
        refine ⟨_, (hrun vs w).trans (run_part_a hE hgs), ?_⟩
        refine RepP.agg _ _ (by simp; omega) (fun j hj => ?_) (fun j hj => ?_) <;> simp only [List.length_map, List.length_range] at hj <;> rw [agetD, extract_toList]
        · have := (hc (F.offset + j) (by omega)).1
          simpa [List.getD_eq_getElem?_getD, List.getElem?_take, List.getElem?_drop, hj] using this
        · have := (hc (F.offset + j) (by omega)).2
          simpa [List.getD_eq_getElem?_getD, List.getElem?_take, List.getElem?_drop, hj] using this
  · rename_i cs
    cases hst : isStruct (E.ty F.type)
    · simp only [hst, cond_false] at h
      cases hsc : isScalar (E.ty F.type)
      · simp [hsc] at h
      · simp only [hsc, cond_true] at h
        split at h
        · rename_i v hv
          refine ⟨_, h, fun {X n I μ a w y} hX hr hs hx => ?_⟩
          obtain ⟨vs, rfl, hc⟩ := hx
          obtain ⟨k1, k2⟩ := hc.get hv
          exact ⟨_, (hrun vs w).trans (part_run hE hsc (by simpa using k2) w), k1⟩
        · cases h
    · simp only [hst, cond_true] at h
      obtain ⟨gs, hgs⟩ := isStruct_inv hst
      cases hb : Nat.ble (F.offset + E.sz F.type) cs.length
      · simp [hb] at h
      · simp only [hb, cond_true] at h
        refine ⟨_, h, fun {X n I μ a w y} hX hr hs hx => ?_⟩
        obtain ⟨vs, rfl, hc⟩ := hx
        refine ⟨_, (hrun vs w).trans (run_part_a hE hgs), mkAgg_rep ?_⟩
        rw [extract_toList]
        exact hc.part F.offset (E.sz F.type)
  · cases h
theorem inI_inv {i n : Int} (h : inI i n = true) : 0 ≤ i ∧ i < n := by
  simpa [inI] using h
theorem evIndexAddr_inv (hE : EnvOk P E tB) {st : St} {t : TypeId} {x i : Operand} {K : GV → Option R} (h : evIndexAddr E st t x i K = some r) : ∃ v, K v = some r ∧ ValDoes P E st (fun a => Instr.indexAt t (a.eval x) (a.eval i)) v := by
  unfold evIndexAddr at h
  split at h
  · rename_i e ht
    obtain ⟨ix, hix, h⟩ := wInt_inv h
    obtain ⟨hu, inf, z, hi1, hi2, _⟩ := hE.slice t e ht
    have hrun : ∀ (b o n cap : Nat) (w : World), 0 ≤ ix ∧ ix < (n : Int) → (Instr.indexAt t (.slice (some ⟨b, o, none⟩) n cap) (.int .i64 ix)).run P w = .ok (.pointer (some ⟨b, o + ix.toNat * E.sz e, none⟩)) w := by
      intro b o n cap w hb
      simp [Instr.indexAt, asIntOf, run_underlying hu, hb, sizeOf, typeInfo, hi1, hi2, add_at]
    split at h
    · rename_i v hv
      cases hc : isSl (E.sz e) v && inI ix (slOf v).length
      · simp [hc] at h
      · simp only [hc, cond_true] at h
        simp only [Bool.and_eq_true] at hc
        have hb := inI_inv hc.2
        refine ⟨_, h, fun {X n I μ a w} hX hr hs => ?_⟩
        have h1 := hs.ev x
        rw [hv, isSl_inv hc.1] at h1
        have h2 := hs.ev i
        rw [hix] at h2
        dsimp only
        rw [rep_int h2]
        have h1' : RepP I (.sl (E.sz e) (slOf v)) (a.eval x) := h1
        generalize hes : slOf v = es at h1' hb ⊢
        generalize a.eval x = y at h1'
        cases h1' with
        | nilsl => simp at hb; omega
        | sl _ _ b o cap f hcap hcc hI hf =>
          exact ⟨_, hrun b o _ cap w hb, b, o, f, hI, hcc, hf, hb.1, hb.2, by simp⟩
    · rename_i q hq
      split at h
      · rename_i e' es ho
        cases hc : Nat.beq (E.sz e') (E.sz e) && inI ix es.length
        · simp [hc] at h
        · simp only [hc, cond_true] at h
          simp only [Bool.and_eq_true, nbeq, decide_eq_true_eq] at hc
          have hb := inI_inv hc.2
          refine ⟨_, h, fun {X n I μ a w} hX hr hs => ?_⟩
          subst hX
          obtain ⟨v, xs, h1, h2, h3⟩ := hs.h.ok q _ ho
          have hx := hs.ev x
          rw [hq] at hx
          obtain ⟨c, h4⟩ := hx
          rw [h1] at h4
          injection h4 with h4
          injection h4 with h4 h4'
          have h5 := hs.ev i
          rw [hix] at h5
          dsimp only
          rw [rep_int h5, ← h4]
          rcases h2.2 with ⟨e1, e2⟩ | ⟨g, cap, cur, e1, _⟩
          · omega
          · rw [e1]
            exact ⟨_, hrun g 0 _ cap w hb, g, es.length, cap, X.E.sz e', by rw [h1, e1], hb.1, hb.2, by simp [hc.1]⟩
      · cases h
    · rename_i q lo hi hq
      split at h
      · rename_i e' es ho
        cases hc : Nat.beq (E.sz e') (E.sz e) && inI ix (hi - lo)
        · simp [hc] at h
        · simp only [hc, cond_true] at h
          simp only [Bool.and_eq_true, nbeq, decide_eq_true_eq] at hc
          have hb := inI_inv hc.2
          refine ⟨_, h, fun {X n I μ a w} hX hr hs => ?_⟩
          subst hX
          obtain ⟨v, xs, h1, h2, h3⟩ := hs.h.ok q _ ho
          have hx := hs.ev x
          rw [hq] at hx
          obtain ⟨v', c, h4, h0, h0', h6⟩ := hx
          rw [h1] at h4
          injection h4 with h4
          injection h4 with h4 h4'
          subst h4 h4'
          have h5 := hs.ev i
          rw [hix] at h5
          dsimp only
          rw [rep_int h5]
          rcases h6 with ⟨e1, e2, _⟩ | ⟨g, m, cap, o, cap', e1, e2, e3, e4, e5⟩
          · omega
          · rw [e3]
            refine ⟨_, hrun g o _ cap' w ⟨hb.1, by omega⟩, g, m, cap, X.E.sz e', by rw [h1, e1], by omega, by omega, ?_⟩
            have ho' := e4 (by omega)
            have e6 : (lo + ix).toNat = lo.toNat + ix.toNat := by omega
            rw [ho', e6, ← hc.1, Nat.add_mul]
            simp
      · cases h
    · cases h
  · cases h
theorem evIndex_inv (hE : EnvOk P E tB) {st : St} {t : TypeId} {x i : Operand} {K : GV → Option R} (h : evIndex E st t x i K = some r) : ∃ v, K v = some r ∧ ValDoes P E st (fun a => Instr.index t (a.eval x) (a.eval i)) v := by
  unfold evIndex at h
  split at h
  · rename_i ht
    obtain ⟨s, hs0, h⟩ := wStr_inv h
    obtain ⟨ix, hix, h⟩ := wInt_inv h
    cases hc : inI ix s.length
    · simp [hc] at h
    · simp only [hc, cond_true] at h
      have hb := inI_inv hc
      refine ⟨_, h, fun {X n I μ a w} hX hr hs => ?_⟩
      have h1 := hs.ev x
      rw [hs0] at h1
      have h2 := hs.ev i
      rw [hix] at h2
      dsimp only
      rw [rep_str h1, rep_int h2]
      have hlt : ix.toNat < s.length := by omega
      have hrun := run_index_string (P := P) w t ⟨s.toArray⟩ .i64 ix (hE.str t ht)
      have hsz : (⟨s.toArray⟩ : ByteArray).size = s.length := by simp [ByteArray.size]
      rw [dif_pos (by rw [hsz]; exact hb)] at hrun
      refine ⟨_, hrun, ?_⟩
      have e : ((⟨s.toArray⟩ : ByteArray)[ix.toNat]'(by rw [hsz]; exact hlt)) = s.getD ix.toNat 0 := by
        rw [getD_lt hlt]
        show s.toArray[ix.toNat] = _
        simp
      rw [e]
      exact RepP.int _ _
  · cases h
def SliceAt (X : Cx) (I : Mem) (w : World) (c : Nat) (es : List PV) (x : Value) : Prop :=
  ∃ A cap, x = .slice A es.length cap ∧ es.length ≤ cap ∧ (A = none → es = [] ∧ cap = 0) ∧ ∀ ad, A = some ad → ∃ xs, RowRep I c es xs ∧ xs.length = es.length * c ∧ ∀ p, p < es.length * c → w.cell? (ad.add p) = some (xs.getD p undef)
theorem flat_get {c n : Nat} (f : Nat → Nat → Value) {i j : Nat} (hi : i < n) (hj : j < c) : ((List.range (n * c)).map fun p => f (p / c) (p % c)).getD (i * c + j) undef = f i j := by
  have hb : i * c + j < n * c := by
    have := Nat.mul_le_mul_right c (show i + 1 ≤ n from hi)
    rw [Nat.add_mul] at this
    omega
  have e1 : (i * c + j) / c = i := by rw [Nat.mul_comm, Nat.mul_add_div (by omega)]; simp [Nat.div_eq_of_lt hj]
  have e2 : (i * c + j) % c = j := by rw [Nat.mul_comm, Nat.mul_add_mod]; exact Nat.mod_eq_of_lt hj
  simp [List.getD_eq_getElem?_getD, List.getElem?_map, List.getElem?_range hb, e1, e2]
theorem rep_sliceAt {X : Cx} {I : Mem} {w : World} {c : Nat} {es : List PV} {x : Value} (hc0 : 0 < c) (him : ImmOk X I w) (h : RepP I (.sl c es) x) : SliceAt X I w c es x := by
  cases h with
  | nilsl _ a => exact ⟨a, 0, rfl, Nat.le_refl _, fun _ => ⟨rfl, rfl⟩, fun ad e => ⟨[], fun i hi => by simp at hi, by simp, fun p hp => by simp at hp⟩⟩
  | sl _ _ b o cap f hcap hc hI hf =>
    refine ⟨some ⟨b, o, none⟩, cap, rfl, hcap, fun e => (by cases e), ?_⟩
    rintro ad e
    injection e with e
    subst e
    refine ⟨(List.range (es.length * c)).map fun p => f (p / c) (p % c), ?_, by simp, ?_⟩
    · intro i hi
      refine ⟨hc i hi, fun j hj => ?_⟩
      rw [flat_get f hi hj]
      exact ⟨hf i j hi hj, hI.h1 i j hi hj⟩
    · intro p hp
      rw [add_at]
      have hi : p / c < es.length := Nat.div_lt_of_lt_mul (by rw [Nat.mul_comm]; exact hp)
      have hj : p % c < c := Nat.mod_lt _ hc0
      have e : p / c * c + p % c = p := by rw [Nat.mul_comm]; exact Nat.div_add_mod p c
      have hg := flat_get f hi hj
      rw [e] at hg
      rw [hg]
      have := hI.hI (p / c) (p % c) hi hj
      rw [e] at this
      obtain ⟨arr, T, fz, k1, k2, _⟩ := him b _ _ this
      exact cell_heap k1 k2
theorem row_sliceAt {X : Cx} {I : Mem} {w : World} {c B e : Nat} {es : List PV} {v : Value} {xs : List Value} (h : w.ownsRow B e c v es.length xs) (hr : RowRep I c es xs) : SliceAt X I w c es v := by
  rcases h.2 with ⟨e1, e2⟩ | ⟨g, cap, cur, e1, _, hg, hnc, _⟩
  · refine ⟨none, 0, by rw [e1, e2], by omega, fun _ => ⟨List.eq_nil_of_length_eq_zero e2, rfl⟩, fun ad e => (by cases e)⟩
  · refine ⟨some ⟨g, 0, none⟩, cap, e1, hnc, fun e => (by cases e), ?_⟩
    rintro ad e
    injection e with e
    subst e
    refine ⟨xs, hr, h.1, fun p hp => ?_⟩
    rw [add_at, Nat.zero_add]
    rw [e1] at h
    exact row_cell h hp
theorem sub_sliceAt {X : Cx} {I : Mem} {w : World} {c B e : Nat} {es : List PV} {v x : Value} {xs : List Value} {lo hi : Int} (h : w.ownsRow B e c v es.length xs) (hr : RowRep I c es xs) (hs : SubVal v c lo hi x) : SliceAt X I w c (sub es lo hi) x := by
  obtain ⟨h0, h1, h2⟩ := hs
  rcases h2 with ⟨e1, e2, e3⟩ | ⟨g, n, cap, o, cap', e1, e2, e3, e4, e5⟩
  · have : lo = 0 := by omega
    subst this e2
    refine ⟨none, 0, by simp [e3, sub], by simp [sub], fun _ => ⟨by simp [sub], rfl⟩, fun ad e => (by cases e)⟩
  · rcases h.2 with ⟨k1, k2⟩ | ⟨g', cap2, cur, k1, _, hg, hnc, _⟩
    · rw [e1] at k1; cases k1
    · rw [e1] at k1
      injection k1 with k1 k2 k3
      injection k1 with k1
      injection k1 with k1
      subst k1 k2 k3
      have hlen := sub_length es lo hi h0 h1 e2
      refine ⟨some ⟨g, o, none⟩, cap', by rw [e3, hlen], by omega, fun e => (by cases e), ?_⟩
      rintro ad e
      injection e with e
      subst e
      refine ⟨(xs.drop (lo.toNat * c)).take ((hi - lo).toNat * c), ?_, ?_, ?_⟩
      · intro i hi'
        rw [sub_getD es lo hi .any i h0 e2 (by omega)]
        have hrow := hr (lo.toNat + i) (by omega)
        refine ⟨hrow.1, fun j hj => ?_⟩
        have hb : i * c + j < (hi - lo).toNat * c := by
          have := Nat.mul_le_mul_right c (show i + 1 ≤ (hi - lo).toNat by omega)
          rw [Nat.add_mul] at this
          omega
        have e : ((xs.drop (lo.toNat * c)).take ((hi - lo).toNat * c)).getD (i * c + j) undef = xs.getD ((lo.toNat + i) * c + j) undef := by
          simp only [List.getD_eq_getElem?_getD, List.getElem?_take, List.getElem?_drop, hb, if_true]
          congr 2
          rw [Nat.add_mul]
          omega
        rw [e]
        exact hrow.2 j hj
      · rw [List.length_take, List.length_drop, h.1, hlen]
        have : lo.toNat * c + (hi - lo).toNat * c ≤ es.length * c := by rw [← Nat.add_mul]; exact Nat.mul_le_mul_right c (by omega)
        omega
      · intro p hp
        rw [add_at]
        rw [hlen] at hp
        have hlt : lo < hi := by
          rcases Int.lt_or_le lo hi with h' | h'
          · exact h'
          · have : (hi - lo).toNat = 0 := by omega
            rw [this] at hp; omega
        have hb : lo.toNat * c + p < es.length * c := by
          have := Nat.mul_le_mul_right c (show lo.toNat + (hi - lo).toNat ≤ es.length by omega)
          rw [Nat.add_mul] at this
          omega
        rw [e4 hlt]
        have e : ((xs.drop (lo.toNat * c)).take ((hi - lo).toNat * c)).getD p undef = xs.getD (lo.toNat * c + p) undef := by
          simp [List.getD_eq_getElem?_getD, List.getElem?_take, List.getElem?_drop, hp]
        rw [e]
        rw [e1] at h
        exact row_cell h hb
theorem wSl_inv {st : St} {c : Nat} {v0 : GV} {K : List PV → Option R} (h : wSl E c st v0 K = some r) : ∃ es, K es = some r ∧
    ∀ {X : Cx} {n : Nat} {I : Mem} {μ : Locs} {a : Act} {w : World} {x : Value}, X.E = E → 0 < c → Sim X n I μ st a w → RepG I μ v0 x → SliceAt X I w c es x := by
  unfold wSl at h
  split at h
  · rename_i v
    cases hs : isSl c v
    · simp [hs] at h
    · simp only [hs, cond_true] at h
      refine ⟨_, h, fun {X n I μ a w x} hX hc hsim hx => ?_⟩
      rw [isSl_inv hs] at hx
      exact rep_sliceAt hc hsim.im hx
  · refine ⟨_, h, fun {X n I μ a w x} hX hc hsim hx => ?_⟩
    exact ⟨none, 0, hx, Nat.le_refl _, fun _ => ⟨rfl, rfl⟩, fun ad e => (by cases e)⟩
  · rename_i q
    split at h
    · rename_i e es ho
      rw [nbeq] at h
      by_cases hsz : E.sz e = c
      · simp only [hsz, decide_true, cond_true] at h
        refine ⟨_, h, fun {X n I μ a w x} hX hc hsim hx => ?_⟩
        subst hX hsz
        obtain ⟨v, xs, h1, h2, h3⟩ := hsim.h.ok q _ ho
        obtain ⟨c', h4⟩ := hx
        rw [h1] at h4
        injection h4 with h4
        injection h4 with h4 _
        rw [← h4]
        exact row_sliceAt h2 h3
      · simp [hsz] at h
    · cases h
  · rename_i q lo hi
    split at h
    · rename_i e es ho
      rw [nbeq] at h
      by_cases hsz : E.sz e = c
      · simp only [hsz, decide_true, cond_true] at h
        refine ⟨_, h, fun {X n I μ a w x} hX hc hsim hx => ?_⟩
        subst hX hsz
        obtain ⟨v, xs, h1, h2, h3⟩ := hsim.h.ok q _ ho
        obtain ⟨v', c', h4, h5⟩ := hx
        rw [h1] at h4
        injection h4 with h4
        injection h4 with h4 h4'
        subst h4 h4'
        exact sub_sliceAt h2 h3 h5
      · simp [hsz] at h
    · cases h
  · cases h
theorem evLen_inv (hE : EnvOk P E tB) {st : St} {t : TypeId} {x : Operand} {ty : TypeId} {K : GV → Option R} (h : evLen E st t x K = some r) : ∃ v, K v = some r ∧ ValDoes P E st (fun a => Builtin.len_ #[t] ty #[a.eval x]) v := by
  unfold evLen at h
  split at h
  · rename_i ht
    obtain ⟨s, hs, h⟩ := wStr_inv h
    refine ⟨_, h, fun {X n I μ a w} hX hr hsim => ?_⟩
    have hx := hsim.ev x
    rw [hs] at hx
    dsimp only
    rw [rep_str hx, run_len_string w t ty _ (hE.str t ht)]
    refine ⟨_, rfl, ?_⟩
    have e : goInt ((⟨s.toArray⟩ : ByteArray).size : Int) = .int .i64 (s.length : Int) := by simp [goInt, ByteArray.size]
    rw [e]
    exact RepP.int _ _
  · rename_i e ht
    obtain ⟨hu, i, z, _, _, _, _, hpos, _⟩ := hE.slice t e ht
    have hrun : ∀ (A : Option Addr) (n c : Nat) (w : World), (Builtin.len_ #[t] ty #[.slice A n c]).run P w = .ok (.int .i64 (n : Int)) w := by
      intro A n c w
      simp [Builtin.len_, run_underlying hu, goInt]
    split at h
    · rename_i q lo hi hq
      refine ⟨_, h, fun {X n I μ a w} hX hr hsim => ?_⟩
      subst hX
      have hx := hsim.evT t x
      rw [hq] at hx
      obtain ⟨v, c, _, h0, h1, h2⟩ := hx
      rcases h2 with ⟨_, e2, e3⟩ | ⟨g, n', cap, o, cap', _, _, e3, _⟩
      · have : lo = 0 := by omega
        subst this e2
        dsimp only
        rw [e3]
        exact ⟨_, hrun _ _ _ w, RepP.int _ _⟩
      · dsimp only
        rw [e3]
        refine ⟨_, hrun _ _ _ w, ?_⟩
        have e : (((hi - lo).toNat : Nat) : Int) = hi - lo := by omega
        rw [e]
        exact RepP.int _ _
    · obtain ⟨es, h, hw⟩ := wSl_inv h
      refine ⟨_, h, fun {X n I μ a w} hX hr hsim => ?_⟩
      have hx := hsim.evT t x
      rw [hX] at hx
      obtain ⟨A, cap, e1, _⟩ := hw hX hpos hsim hx
      dsimp only
      rw [e1]
      exact ⟨_, hrun _ _ _ w, RepP.int _ _⟩
  · cases h
end
end Go.Dip
end
/- An ideal semantics of the model's code, part 12: struct literals, the rest of what changes nothing; calls by plain values. -/
section
set_option linter.unusedVariables false
set_option linter.unusedSimpArgs false
namespace Go.Dip
section
variable {R : Type} {r : R} {P : Program} {E : Env} {tB : TypeId}
theorem splice_length {α : Type} (cs : List α) (off : Nat) (xs : List α) (h : off + xs.length ≤ cs.length) : (splice cs off xs).length = cs.length := by
  simp only [splice, List.length_append, List.length_take, List.length_drop]
  omega
theorem splice_get {α : Type} (cs : List α) (off : Nat) (xs : List α) (h : off + xs.length ≤ cs.length) (i : Nat) : (splice cs off xs)[i]? = if off ≤ i ∧ i < off + xs.length then xs[i - off]? else cs[i]? := by
  simp only [splice, List.getElem?_append, List.length_append, List.length_take, List.getElem?_take, List.getElem?_drop]
  have e : min off cs.length = off := by omega
  rw [e]
  by_cases h1 : i < off
  · rw [if_pos (show i < off + xs.length by omega), if_pos h1, if_pos h1, if_neg (show ¬ (off ≤ i ∧ i < off + xs.length) by omega)]
  · by_cases h2 : i < off + xs.length
    · rw [if_pos h2, if_neg h1, if_pos (show off ≤ i ∧ i < off + xs.length by omega)]
    · rw [if_neg h2, if_neg (show ¬ (off ≤ i ∧ i < off + xs.length) by omega)]
      congr 1
      omega
theorem RepCs.splice {I : Mem} {μ : Locs} {cs xs : List CV} {vs ys : List Value} (h : RepCs I μ cs vs) (k : RepCs I μ xs ys) (off : Nat) (hl : off + xs.length ≤ cs.length) : RepCs I μ (splice cs off xs) (splice vs off ys) := by
  have hl' : off + ys.length ≤ vs.length := by rw [← h.1, ← k.1]; exact hl
  refine ⟨by rw [splice_length _ _ _ hl, splice_length _ _ _ hl']; exact h.1, fun i v hv => ?_⟩
  rw [splice_get _ _ _ hl] at hv
  rw [List.getD_eq_getElem?_getD, splice_get _ _ _ hl', ← k.1]
  split at hv
  · rename_i hi
    rw [if_pos hi]
    have := k.2 _ v hv
    rwa [List.getD_eq_getElem?_getD] at this
  · rename_i hi
    rw [if_neg hi]
    have := h.2 _ v hv
    rwa [List.getD_eq_getElem?_getD] at this
theorem fold_splice (off : Nat) : ∀ (ys : List Value) (k : Nat) (cells : Array Value), off + k + ys.length ≤ cells.size →
    ((ys.zipIdx k).foldl (fun cs (x : Value × Nat) => cs.setIfInBounds (off + x.2) x.1) cells).toList = splice cells.toList (off + k) ys
  | [], k, cells, h => by simp [splice]
  | y :: ys, k, cells, h => by
    rw [List.zipIdx_cons, List.foldl_cons, fold_splice off ys (k + 1) _ (by simp at h ⊢; omega)]
    have hl : off + k + (y :: ys).length ≤ cells.toList.length := by simpa using h
    apply List.ext_getElem?
    intro i
    rw [splice_get _ _ _ hl, splice_get _ _ _ (by simp at h ⊢; omega)]
    simp only [List.length_cons, Array.toList_setIfInBounds, List.getElem?_set]
    by_cases h1 : i = off + k
    · subst h1
      have : off + k < cells.size := by simp at h; omega
      rw [if_neg (show ¬ (off + (k + 1) ≤ off + k ∧ off + k < off + (k + 1) + ys.length) by omega), if_pos (show off + k ≤ off + k ∧ off + k < off + k + (ys.length + 1) by omega)]
      simp [this]
    · by_cases h2 : off + (k + 1) ≤ i ∧ i < off + (k + 1) + ys.length
      · rw [if_pos h2, if_pos (show off + k ≤ i ∧ i < off + k + (ys.length + 1) by omega)]
        have e : i - (off + k) = (i - (off + (k + 1))) + 1 := by omega
        rw [e, List.getElem?_cons_succ]
      · rw [if_neg h2, if_neg (show ¬ (off + k ≤ i ∧ i < off + k + (ys.length + 1)) by omega), if_neg (fun e => h1 e.symm)]
theorem fill_cons (place : Nat → Option (Nat × Nat)) (cells : Array Value) (i off : Nat) (v : Value) (rest : List (Nat × Value)) (hp : place i = some (off, v.cells.size)) (hl : off + v.cells.size ≤ cells.size) :
    ∃ cells', cells'.toList = splice cells.toList off v.cells.toList ∧ Instr.fill place cells ((i, v) :: rest) = Instr.fill place cells' rest := by
  refine ⟨v.cells.zipIdx.foldl (fun cs (x : Value × Nat) => cs.setIfInBounds (off + x.2) x.1) cells, ?_, ?_⟩
  · rw [← Array.foldl_toList, Array.toList_zipIdx]
    have := fold_splice off v.cells.toList 0 cells (by simpa using hl)
    simpa using this
  · simp only [Instr.fill, hp]
    rw [if_neg (by simp; omega)]
theorem wBuild_inv (hE : EnvOk P E tB) {st : St} {fs : List (Nat × TypeId)} {n : Nat} {place : Nat → Option (Nat × Nat)} (hpl : ∀ (i : Nat) f, fs[i]? = some f → place i = some (f.1, E.sz f.2) ∧ f.1 + E.sz f.2 ≤ n) :
    ∀ {parts : List (Nat × Operand)} {cs : List CV} {K : List CV → Option R}, wBuild E st fs parts cs K = some r → cs.length = n → ∃ cs', K cs' = some r ∧ cs'.length = n ∧
      ∀ {X : Cx} {m : Nat} {I : Mem} {μ : Locs} {a : Act} {w : World}, X.E = E → RowsOk μ → Sim X m I μ st a w → ∀ vs : Array Value, RepCs I μ cs vs.toList →
        ∃ vs', Instr.fill place vs (parts.map fun x => (x.1, a.eval x.2)) = some vs' ∧ RepCs I μ cs' vs'.toList
  | [], cs, K, h, hn => ⟨cs, h, hn, fun _ _ _ vs hv => ⟨vs, rfl, hv⟩⟩
  | x :: parts, cs, K, h, hn => by
    simp only [wBuild] at h
    split at h
    · rename_i f hf
      obtain ⟨hp, hfit⟩ := hpl _ f hf
      obtain ⟨xs, h1, hxl, _, _, hxr⟩ := wCells_inv hE h
      have hl : f.1 + xs.length ≤ cs.length := by omega
      obtain ⟨cs', h2, h3, h4⟩ := wBuild_inv hE hpl h1 (by rw [splice_length _ _ _ hl]; exact hn)
      refine ⟨cs', h2, h3, fun {X m I μ a w} hX hr hs vs hv => ?_⟩
      have hx := hs.evT f.2 x.2
      rw [hX] at hx
      obtain ⟨k1, k2⟩ := hxr hr hx
      obtain ⟨cells', c1, c2⟩ := fill_cons place vs x.1 f.1 (a.eval x.2) (parts.map fun x => (x.1, a.eval x.2)) (by rw [k2]; exact hp) (by have := hv.1; simp at this; omega)
      rw [List.map_cons, c2]
      refine h4 hX hr hs cells' ?_
      rw [c1]
      exact hv.splice k1 f.1 hl
    · cases h
theorem mapM_places (hE : EnvOk P E tB) : ∀ (Fs : List Field), (∀ f, f ∈ Fs → ∃ i, P.info? f.type = some i ∧ i.size = E.sz f.type) → Fs.mapM (fun f => (P.info? f.type).map fun i => (f.offset, i.size)) = some (Fs.map fun f => (f.offset, E.sz f.type))
  | [], _ => rfl
  | f :: Fs, h => by
    obtain ⟨i, h1, h2⟩ := h f (by simp)
    rw [List.mapM_cons, h1, mapM_places hE Fs fun g hg => h g (by simp [hg])]
    simp [h2]
theorem evBuild_inv (hE : EnvOk P E tB) {st : St} {t : TypeId} {fs : List (Nat × TypeId)} (ht : E.ty t = .struct fs) {parts : Array (Nat × Operand)} {K : GV → Option R} (h : wBuild E st fs parts.toList (zeroOf E 6 t) (fun cs => K (mkAgg cs)) = some r) :
    ∃ v, K v = some r ∧ ValDoes P E st (fun a => Instr.build t (parts.map fun x => (x.1, a.eval x.2))) v := by
  obtain ⟨Fs, i, hu, hfs, hi, his⟩ := hE.struct t fs ht
  obtain ⟨i', z, hi', hz, hzr, hza, hzl⟩ := hE.zero t (.inl (by rw [ht]; rfl))
  rw [hi] at hi'
  injection hi' with hi'
  subst hi'
  have hpl : ∀ (j : Nat) f, fs[j]? = some f → ((Fs.toList.map fun f => (f.offset, E.sz f.type)).toArray[j]?) = some (f.1, E.sz f.2) ∧ f.1 + E.sz f.2 ≤ E.sz t := by
    intro j f hf
    have hfit := (hE.fits t fs ht f (List.mem_of_getElem? hf)).1
    refine ⟨?_, hfit⟩
    rw [hfs, List.getElem?_map] at hf
    obtain ⟨F, hF, rfl⟩ := Option.map_eq_some_iff.1 hf
    simp only [List.getElem?_toArray, List.getElem?_map, hF, Option.map_some]
  obtain ⟨cs', h2, h3, h4⟩ := wBuild_inv (n := E.sz t) hE hpl h hzl
  refine ⟨_, h2, fun {X m I μ a w} hX hr hs => ?_⟩
  obtain ⟨vs', k1, k2⟩ := h4 hX hr hs z.cells (hzr I μ)
  refine ⟨_, run_build w t _ vs' ?_, mkAgg_rep k2⟩
  have hm := mapM_places (P := P) hE Fs.toList fun f hf => by
    obtain ⟨_, ⟨j, k3, k4, _⟩, _⟩ := hE.fits t fs ht (f.offset, f.type) (by rw [hfs]; exact List.mem_map.2 ⟨f, hf, rfl⟩)
    exact ⟨j, k3, k4⟩
  simp only [Program.built, hi, hu, hz, hm]
  rw [Array.toList_map]
  exact k1
theorem allPtr_inv : ∀ {vs : List GV} {rs : List Nat}, allPtr vs = some rs → vs = rs.map fun q => .c (.ptr q 0)
  | [], rs, h => by simp [allPtr] at h; subst h; rfl
  | .c (.ptr q 0) :: l, rs, h => by
    simp only [allPtr] at h
    cases hl : allPtr l with
    | none => simp [hl] at h
    | some qs =>
      simp only [hl, Option.some.injEq] at h
      subst h
      simp [allPtr_inv hl]
  | .c (.ptr q (n + 1)) :: l, rs, h => by simp [allPtr] at h
  | .c (.p _) :: l, rs, h => by simp [allPtr] at h
  | .c (.nils _) :: l, rs, h => by simp [allPtr] at h
  | .c (.orow _) :: l, rs, h => by simp [allPtr] at h
  | .c (.osub _ _ _) :: l, rs, h => by simp [allPtr] at h
  | .c (.ptrE _ _ _) :: l, rs, h => by simp [allPtr] at h
  | .c (.iptr _ _ _ _) :: l, rs, h => by simp [allPtr] at h
  | .c (.fn _ _) :: l, rs, h => by simp [allPtr] at h
  | .c (.glob _) :: l, rs, h => by simp [allPtr] at h
  | .agg _ :: l, rs, h => by simp [allPtr] at h
  | .tup _ :: l, rs, h => by simp [allPtr] at h
end
end Go.Dip
end
/- An ideal semantics of the model's code, part 13: what a callee owes; the operations that change no object. -/
section
set_option linter.unusedVariables false
set_option linter.unusedSimpArgs false
namespace Go.Dip
def PureFn (P : Program) (E : Env) (W0 : World) (f : FuncId) (args : List PV) (v : GV) : Prop :=
  v.keys = [] ∧ ∀ (X : Cx) (I : Mem) (w : World) (as : Array Value), X.E = E → X.W0 = W0 → ImmOk X I w → X.B ≤ w.heap.size → W0.heap.size ≤ X.B → RowKit.Below W0.heap.size W0 w →
    as.size = args.length → (∀ i, i < args.length → RepP I (args.getD i .any) (as.getD i undef)) →
    Calls P f as w fun e w' => ∃ x J, e = .returned x ∧ RepG J (fun _ => none) v x ∧ MemLe I J ∧ (∀ b o u, J b o = some u → I b o = some u ∨ w.heap.size ≤ b) ∧ ImmOk X J w' ∧ RowKit.Below w.heap.size w w'
def blocksOf (μ : Locs) (H : List (Nat × Ob)) : Nat → Prop := fun b => ∃ r o l, look H r = some o ∧ μ r = some l ∧ l.blk = some b
def hasBld (H : List (Nat × Ob)) : Bool := H.any fun x => x.2.isBld
def HeapFn (P : Program) (E : Env) (tB : TypeId) (W0 : World) (f : FuncId) (args : List GV) (H : List (Nat × Ob)) (v : GV) (H' : List (Nat × Ob)) : Prop :=
  ∀ (X : Cx) (I : Mem) (μ : Locs) (w : World) (as : Array Value), X.E = E → X.tB = tB → X.W0 = W0 → X.S = blocksOf μ H → X.hb = hasBld H → X.w1 = w → CxOk X → RowsOk μ → ImmOk X I w → X.B ≤ w.heap.size → RowKit.Below W0.heap.size W0 w →
    HeapOk X I μ w H → as.size = args.length → (∀ i, i < args.length → RepG I μ (args.getD i .any) (as.getD i undef)) →
    Calls P f as w fun e w' => ∃ x J ν, e = .returned x ∧ RepG J ν v x ∧ NewI X I J ∧ (RowsOk ν ∧ Keep μ ν) ∧ ImmOk X J w' ∧ HeapOk X J ν w' H' ∧ Frame X w w'
def Enters (P : Program) (g : FuncId) : Prop := ∀ (w : World) (as : Array Value), (callFunc g as).run P w = .ok (.enter g as) w
def RhoOk (P : Program) (E : Env) (tB : TypeId) (W0 : World) {R : Type} (ρ : FuncId → Option (Callee R)) : Prop :=
  ∀ g c, ρ g = some c → Enters P g ∧ match c with
    | .pure F => ∀ vs K r, F vs K = some r → ∃ v, K v = some r ∧ PureFn P E W0 g vs v
    | .heap F => ∀ args H K r, F args H K = some r → ∃ v H', K v H' = some r ∧ HeapFn P E tB W0 g args H v H'
theorem enters_of {P : Program} {g : FuncId} {fn : Func} (h : P.funcs[g]? = some fn) (hn : (fn.name == "runtime.NumGoroutine") = false) (hb : fn.body.isNone = false) : Enters P g := by
  intro w as
  simp only [callFunc, Sem.run_bind, run_program, Result.andThen_ok, h, hn, hb, Bool.false_eq_true, if_false, Sem.run_pure]
theorem below_grown {w w' : World} (h : RowKit.Below w.heap.size w w') (row : Option Nat) : w.grownBy w' row := ⟨h.os, h.tape, h.output, h.size, fun k hk _ => h.block k hk⟩
theorem RepG.pure {I : Mem} {μ ν : Locs} {v : GV} {x : Value} (h : RepG I μ v x) (hk : v.keys = []) : RepG I ν v x := h.mono (MemLe.refl I) fun r hr => by rw [hk] at hr; cases hr
theorem Sim.pureCall {X : Cx} {n : Nat} {I J : Mem} {μ : Locs} {st : St} {a : Act} {w w' : World} (hs : Sim X n I μ st a w) (hIJ : MemLe I J) (hnew : ∀ b o u, J b o = some u → I b o = some u ∨ w.heap.size ≤ b) (him : ImmOk X J w') (hb : RowKit.Below w.heap.size w w') :
    NewI X I J ∧ Sim X n J μ st a w' := by
  have h1 := hs.grown (below_grown hb none) (Aside.none ..)
  refine ⟨⟨hIJ, fun b o u hu => ?_⟩, h1.size, h1.defers, fun i v hv => (h1.t i v hv).le hIJ, ⟨fun r o ho => (h1.h.ok r o ho).le hIJ, h1.h.apart, ?_, h1.h.own, h1.h.alone⟩, him, h1.bw, h1.fr, h1.cx, h1.base⟩
  · rcases hnew b o u hu with e | e
    · exact .inl e
    · exact .inr (.inr (Nat.le_trans hs.fr.size e))
  · intro r o l b ho hl hbl p
    cases hJ : J b p with
    | none => rfl
    | some u =>
      rcases hnew b p u hJ with e | e
      · rw [hs.h.imm r o l b ho hl hbl p] at e; cases e
      · exact absurd hbl ((hs.fresh e).1 r o l ho hl)
section
variable {R : Type} {r : R} {P : Program} {E : Env} {tB : TypeId} {W0 : World}
theorem upon_call {X : Cx} {n : Nat} {I : Mem} {μ : Locs} {st' : St} {a : Act} {w : World} {o : Oper} {g : FuncId} {vs : List PV} {v : GV} (hE : X.E = E) (hW : X.W0 = W0) (hr : RowsOk μ) (hp : PureFn P E W0 g vs v) (hs : Sim X n I μ st' a w) {as : Array Value}
    (hrun : (execOp a.eval o).run P w = .ok (.enter g as) w) (hl : as.size = vs.length) (ha : ∀ i, i < vs.length → RepP I (vs.getD i .any) (as.getD i undef)) :
    Upon P o a w fun x w' => ∃ J ν, NewI X I J ∧ (RowsOk ν ∧ Keep μ ν) ∧ Sim X n J ν st' a w' ∧ RepG J ν v x := by
  intro next Q hn
  unfold Oper.wp
  rw [hrun, Oper.upon_enter]
  refine (hp.2 X I w as hE hW hs.im hs.bw (by rw [← hW]; exact hs.cx.lowB) (by rw [← hW]; exact hs.base) hl ha).mono ?_
  rintro e w' ⟨x, J, rfl, h1, h2, h3, h4, h5⟩
  obtain ⟨k1, k2⟩ := hs.pureCall h2 h3 h4 h5
  exact hn x w' ⟨J, μ, k1, ⟨hr, Keep.refl μ⟩, k2, h1.pure hp.1⟩
theorem run_call {a : Act} {o : Oper} {f : Operand} {args : Array Operand} {ts : Array TypeId} {g : FuncId} {cap : Array Value} {w : World} (ho : o.op = .call { callee := .value f, args := args, argTypes := ts }) (hf : a.eval f = .func (.func g) #[] cap) (hg : Enters P g) :
    (execOp a.eval o).run P w = .ok (.enter g (args.map a.eval ++ cap)) w := by
  have := hg w (args.map a.eval ++ cap)
  simp only [execOp, ho, resolve, hf, Deferred.ofValue, invoke, Sem.run_bind, Sem.run_pure, Result.andThen_ok, Array.empty_append]
  simpa [Deferred.ofValue, invoke] using this
theorem gpures_rep {I : Mem} {μ : Locs} : ∀ {vs : List GV} {ps : List PV} {xs : List Value}, evCalm.GVs.pures vs = some ps → vs.length = xs.length → (∀ i, i < vs.length → RepG I μ (vs.getD i .any) (xs.getD i undef)) →
    ps.length = xs.length ∧ ∀ i, i < ps.length → RepP I (ps.getD i .any) (xs.getD i undef)
  | [], ps, xs, h, hl, _ => by
    simp only [evCalm.GVs.pures, Option.some.injEq] at h
    subst h
    exact ⟨hl, fun i hi => by simp at hi⟩
  | v :: vs, ps, [], h, hl, _ => by simp at hl
  | v :: vs, ps, x :: xs, h, hl, hr => by
    simp only [evCalm.GVs.pures] at h
    cases h1 : v.pure? with
    | none => simp [h1] at h
    | some y =>
      cases h2 : evCalm.GVs.pures vs with
      | none => simp [h1, h2] at h
      | some ys =>
        simp only [h1, h2, Option.some.injEq] at h
        subst h
        obtain ⟨k1, k2⟩ := gpures_rep (xs := xs) h2 (by simpa using hl) (fun i hi => by simpa using hr (i + 1) (by simpa using hi))
        refine ⟨by simp [k1], fun i hi => ?_⟩
        cases i with
        | zero => simpa using pure_rep h1 (by simpa using hr 0 (by simp))
        | succ i => simpa using k2 i (by simpa using hi)
theorem wArgs_length (st : St) : ∀ l : List (TypeId × Operand), (wArgs E st l).length = l.length
  | [] => rfl
  | x :: l => by simp [wArgs, wArgs_length st l]
theorem wArgs_get (st : St) : ∀ (l : List (TypeId × Operand)) (i : Nat) (x : TypeId × Operand), l[i]? = some x → (wArgs E st l).getD i .any = st.evT E x.1 x.2
  | [], i, x, h => by simp at h
  | y :: l, 0, x, h => by simp at h; subst h; simp [wArgs]
  | y :: l, i + 1, x, h => by simpa [wArgs] using wArgs_get st l i x (by simpa using h)
theorem Sim.args {X : Cx} {n : Nat} {I : Mem} {μ : Locs} {st : St} {a : Act} {w : World} (hs : Sim X n I μ st a w) (ts : Array TypeId) (args : Array Operand) (hl : ts.size = args.size) (i : Nat) (hi : i < args.size) :
    RepG I μ ((wArgs X.E st (ts.toList.zip args.toList)).getD i .any) ((args.map a.eval).getD i undef) := by
  have h1 : (ts.toList.zip args.toList)[i]? = some (ts[i], args[i]) := by
    rw [List.getElem?_zip_eq_some]
    exact ⟨by simp, by simp [hi]⟩
  rw [wArgs_get st _ i _ h1]
  have : (args.map a.eval).getD i undef = a.eval args[i] := by simp [Array.getD, hi]
  rw [this]
  exact hs.evT ts[i] args[i]
end
end Go.Dip
end
/- An ideal semantics of the model's code, part 14: the operations that change no object, each. -/
section
set_option linter.unusedVariables false
set_option linter.unusedSimpArgs false
namespace Go.Dip
section
variable {R : Type} {r : R} {P : Program} {E : Env} {tB : TypeId} {W0 : World}
theorem ValDoes.calm {st : St} {o : Oper} {run : Act → Sem Value} {v : GV} (h : ValDoes P E st run v) (hrun : ∀ (a : Act) (w : World) x, (run a).run P w = .ok x w → (execOp a.eval o).run P w = .ok (.value x) w) : CalmDoes P E tB o st v := by
  intro X n I μ a w hX _ hr hs
  obtain ⟨x, h1, h2⟩ := h hX hr hs
  exact ⟨x, hrun a w x h1, h2⟩
def isSliceT : TK → Bool
  | .slice _ => true
  | _ => false
theorem ofRunes_bytes : ∀ (es : List PV), ofRunes es = (runesBytes (es.map intOf)).data.toList := by
  have key : ∀ (es : List PV) (s : ByteArray), ((es.map intOf).foldl (fun r n => r ++ Utf8.encode n) s).data.toList = s.data.toList ++ ofRunes es := by
    intro es
    induction es with
    | nil => intro s; simp [ofRunes]
    | cons v es ih => intro s; simp only [List.map_cons, List.foldl_cons]; rw [ih]; simp [ofRunes]
  intro es
  have := key es ByteArray.empty
  unfold runesBytes
  rw [this]
  rfl
theorem isInt_inv {k : IntKind} {x : PV} (h : isInt k x = true) : x = .int k (intOf x) := by
  cases x with
  | int k' n => simp only [isInt, decide_eq_true_eq] at h; subst h; rfl
  | _ => simp [isInt] at h
theorem rep_int' {I : Mem} {x : PV} {k : IntKind} {v : Value} (h : RepP I x v) (hx : isInt k x = true) : v = .int k (intOf x) := by
  rw [isInt_inv hx] at h
  cases h
  rfl
theorem SliceAt.ints {X : Cx} {I : Mem} {w : World} {k : IntKind} {es : List PV} {x : Value} (h : SliceAt X I w 1 es x) (hk : es.all (isInt k) = true) :
    ∃ A cap, x = .slice A es.length cap ∧ (A = none → es = []) ∧ ∀ ad, A = some ad → ∀ j, j < es.length → w.cell? (ad.add j) = some (.int k (intOf (es.getD j .any))) := by
  obtain ⟨A, cap, h1, h2, h3, h4⟩ := h
  refine ⟨A, cap, h1, fun e => (h3 e).1, fun ad e => ?_⟩
  obtain ⟨xs, k2, k3, k4⟩ := h4 ad e
  refine fun j hj => ?_
  rw [k4 j (by omega)]
  have hm : isInt k (es.getD j .any) = true := by
    rw [List.all_eq_true] at hk
    rw [getD_lt hj]
    exact hk _ (by simp)
  obtain ⟨_, k5⟩ := k2 j hj
  have k6 := (k5 0 (by omega)).1
  simp only [Nat.mul_one, Nat.add_zero] at k6
  have e2 : pcell (es.getD j .any) 0 = es.getD j .any := by rw [isInt_inv hm]; rfl
  rw [e2] at k6
  rw [rep_int' k6 hm]
theorem evConv_inv (hE : EnvOk P E tB) {d : Nat} {st : St} {s t : TypeId} {x : Operand} {K : GV → St → Option R} (ht : isSliceT (E.ty t) = false) (h : evConv E d st s t x K = some r) :
    ∃ v, K v st = some r ∧ ValDoes P E st (fun a => convert s t (a.eval x)) v := by
  unfold evConv at h
  split at h
  · rename_i ks k hs hk
    obtain ⟨n, hn, h⟩ := wInt_inv h
    refine ⟨_, h, fun {X m I μ a w} hX hr hsim => ?_⟩
    have hx := hsim.ev x
    rw [hn] at hx
    dsimp only
    rw [rep_int hx]
    have hu := hE.int t k hk
    have hq : P.intKind t = k := by simp [Program.intKind, hu]
    have := run_convert_int (P := P) w s t ks n (by rw [hE.int s ks hs]; rfl) (by rw [hq]; exact hu)
    rw [hq] at this
    exact ⟨_, this, RepP.int _ _⟩
  · rename_i hs hk
    obtain ⟨n, hn, h⟩ := wStr_inv h
    refine ⟨_, h, fun {X m I μ a w} hX hr hsim => ?_⟩
    have hx := hsim.ev x
    rw [hn] at hx
    dsimp only
    rw [rep_str hx]
    exact ⟨_, by simp [convert, run_underlying (hE.str s hs), run_underlying (hE.str t hk)], RepP.str _⟩
  · rename_i ks hs hk
    obtain ⟨n, hn, h⟩ := wInt_inv h
    refine ⟨_, h, fun {X m I μ a w} hX hr hsim => ?_⟩
    have hx := hsim.ev x
    rw [hn] at hx
    dsimp only
    rw [rep_int hx]
    exact ⟨_, run_convert_int_string w s t ks n (by rw [hE.int s ks hs]; rfl) (hE.str t hk), RepP.str _⟩
  · rename_i e hs hk
    rw [hk] at ht
    cases ht
  · rename_i e hs hk
    have hu := (hE.slice s e hs).1
    split at h
    · rename_i he
      obtain ⟨es, h, hw⟩ := wSl_inv h
      cases ha : es.all (isInt .i32)
      · simp [ha] at h
      · simp only [ha, cond_true] at h
        refine ⟨_, h, fun {X m I μ a w} hX hr hsim => ?_⟩
        obtain ⟨A, cap, e1, e2, e3⟩ := (hw hX (by omega) hsim (hsim.ev x)).ints ha
        dsimp only
        rw [e1]
        refine ⟨_, ?_, RepP.str _⟩
        rw [ofRunes_bytes]
        cases A with
        | none =>
          rw [e2 rfl]
          rw [run_convert_runes_nil w s t e _ _ hu (hE.int e _ he) (hE.str t hk)]
          rfl
        | some ad =>
          have k1 := e3 ad rfl
          have := run_convert_runes (P := P) w s t e ad es.length cap (es.map intOf) (by simp) hu (hE.int e _ he) (hE.str t hk) (by
            intro j hj
            rw [k1 j (by simpa using hj)]
            have hj' : j < es.length := by simpa using hj
            simp [List.getD_eq_getElem?_getD, hj'])
          rw [this, List.take_of_length_le (by simp)]
    · rename_i he
      obtain ⟨es, h, hw⟩ := wSl_inv h
      cases ha : es.all (isInt .u8)
      · simp [ha] at h
      · simp only [ha, cond_true] at h
        refine ⟨_, h, fun {X m I μ a w} hX hr hsim => ?_⟩
        obtain ⟨A, cap, e1, e2, e3⟩ := (hw hX (by omega) hsim (hsim.ev x)).ints ha
        dsimp only
        rw [e1]
        refine ⟨_, ?_, RepP.str _⟩
        cases A with
        | none =>
          rw [e2 rfl]
          rw [run_convert_bytes_nil w s e hu (hE.int e _ he) _ _ t (hE.str t hk)]
          rfl
        | some ad =>
          have k1 := e3 ad rfl
          by_cases hne : es = []
          · subst hne
            rw [run_convert_bytes_string w s t e _ _ cap hu (hE.int e _ he) (hE.str t hk)]
            have hl : (loadCells ad 0).run P w = .ok #[] w := run_loadCells_list (P := P) w ad [] (fun j v hj => by simp at hj)
            simp only [Conv.bytesToString, List.length_nil, Sem.run_bind, hl, Result.andThen_ok]
            rfl
          · have hpos : 0 < es.length := List.length_pos_iff.2 hne
            obtain ⟨b, o, rfl⟩ : ∃ b o, ad = ⟨b, o, none⟩ := by
              have h0 := k1 0 hpos
              have e0 : ad.add 0 = ad := by simp [Addr.add]
              rw [e0] at h0
              obtain ⟨b, o, sp⟩ := ad
              cases sp with
              | none => exact ⟨b, o, rfl⟩
              | some z =>
                unfold World.cell? at h0
                split at h0
                · simp at h0
                · cases h0
            have := run_convert_bytes_arg (P := P) w s e hu (hE.int e _ he) b o es.length cap (es.map intOf) (by simp) (by
              intro j hj
              have := k1 j hj
              rw [add_at] at this
              rw [this]
              simp [List.getD_eq_getElem?_getD, hj]) t (hE.str t hk)
            rw [this]
            simp [strOfNums, ofBytes, List.map_map, Function.comp_def]
    · cases h
  · cases h
theorem max_eq' (x y : Int) : (if y > x then y else x) = max x y := by
  rw [Int.max_def]; split <;> split <;> omega
theorem min_eq' (x y : Int) : (if y < x then y else x) = min x y := by
  rw [Int.min_def]; split <;> split <;> omega
theorem evMinMax_inv {st : St} {mx : Bool} {k : TK} {xs : List Operand} {K : GV → Option R} {ts : Array TypeId} {ty : TypeId} (h : evMinMax st mx k xs K = some r) :
    ∃ v, K v = some r ∧ ValDoes P E st (fun a => if mx then Builtin.max_ ts ty (xs.map a.eval).toArray else Builtin.min_ ts ty (xs.map a.eval).toArray) v := by
  unfold evMinMax at h
  split at h
  · rename_i k x y
    obtain ⟨a, ha, h⟩ := wInt_inv h
    obtain ⟨b, hb, h⟩ := wInt_inv h
    refine ⟨_, h, fun {X n I μ act w} hX hr hs => ?_⟩
    have e1 := rep_int (ha ▸ hs.ev x)
    have e2 := rep_int (hb ▸ hs.ev y)
    cases mx
    · refine ⟨_, ?_, RepP.int _ _⟩
      simp only [Bool.false_eq_true, if_false, List.map_cons, List.map_nil, e1, e2, cond_false]
      rw [run_min_int2, min_eq']
    · refine ⟨_, ?_, RepP.int _ _⟩
      simp only [if_true, List.map_cons, List.map_nil, e1, e2, cond_true]
      rw [run_max_int2, max_eq']
  · rename_i k x y z
    obtain ⟨a, ha, h⟩ := wInt_inv h
    obtain ⟨b, hb, h⟩ := wInt_inv h
    obtain ⟨c, hc, h⟩ := wInt_inv h
    refine ⟨_, h, fun {X n I μ act w} hX hr hs => ?_⟩
    have e1 := rep_int (ha ▸ hs.ev x)
    have e2 := rep_int (hb ▸ hs.ev y)
    have e3 := rep_int (hc ▸ hs.ev z)
    cases mx
    · refine ⟨_, ?_, RepP.int _ _⟩
      simp only [Bool.false_eq_true, if_false, List.map_cons, List.map_nil, e1, e2, e3, cond_false]
      rw [run_min_int3, min_eq', min_eq']
    · refine ⟨_, ?_, RepP.int _ _⟩
      simp only [if_true, List.map_cons, List.map_nil, e1, e2, e3, cond_true]
      rw [run_max_int3, max_eq', max_eq']
  · cases h
end
end Go.Dip
end
/- An ideal semantics of the model's code, part 15: what an operation that changes no object does. -/
section
set_option linter.unusedVariables false
set_option linter.unusedSimpArgs false
namespace Go.Dip
section
variable {R : Type} {r : R} {P : Program} {E : Env} {tB : TypeId} {W0 : World}
def CalmF (P : Program) (E : Env) (tB : TypeId) (W0 : World) (o : Oper) (s : St) (v : GV) : Prop :=
  ∀ {X : Cx} {n : Nat} {I : Mem} {μ : Locs} {a : Act} {w : World}, X.E = E → X.tB = tB → X.W0 = W0 → RowsOk μ → Sim X n I μ s a w →
    (∃ x, (execOp a.eval o).run P w = .ok (.value x) w ∧ RepG I μ v x) ∨
    ∃ g vs as, PureFn P E W0 g vs v ∧ (execOp a.eval o).run P w = .ok (.enter g as) w ∧ as.size = vs.length ∧ ∀ i, i < vs.length → RepP I (vs.getD i .any) (as.getD i undef)
theorem CalmDoes.f {st : St} {o : Oper} {v : GV} (h : CalmDoes P E tB o st v) : CalmF P E tB W0 o st v := fun hE hB _ hr hs => .inl (h hE hB hr hs)
theorem ValDoes.f {st : St} {o : Oper} {run : Act → Sem Value} {v : GV} (h : ValDoes P E st run v) (hrun : ∀ (a : Act) (w : World) x, (run a).run P w = .ok x w → (execOp a.eval o).run P w = .ok (.value x) w) : CalmF P E tB W0 o st v :=
  CalmDoes.f (ValDoes.calm h hrun)
theorem ValDoes.op {st : St} {o : Oper} {run : Act → Sem Value} {v : GV} (h : ValDoes P E st run v) (hrun : ∀ (a : Act) (w : World) x, (run a).run P w = .ok x w → (execOp a.eval o).run P w = .ok (.value x) w) : OpDoes P E tB W0 o st v st :=
  CalmDoes.op (ValDoes.calm h hrun)
theorem CalmF.at {S s : St} {o : Oper} {v : GV} (h : CalmF P E tB W0 o s v) (hS : ∀ {X : Cx} {n : Nat} {I : Mem} {μ : Locs} {a : Act} {w : World}, Sim X n I μ S a w → Sim X n I μ s a w) : OpDoes P E tB W0 o S v S := by
  intro X n I μ a w hE hB hW hr hs
  rcases h hE hB hW hr (hS hs) with ⟨x, h1, h2⟩ | ⟨g, vs, as, h1, h2, h3, h4⟩
  · exact Upon.of_run h1 ⟨I, μ, NewI.refl X I, ⟨hr, Keep.refl μ⟩, hs, h2⟩
  · exact upon_call hE hW hr h1 hs h2 h3 h4
theorem CalmF.op {s : St} {o : Oper} {v : GV} (h : CalmF P E tB W0 o s v) : OpDoes P E tB W0 o s v s := h.at fun h => h
theorem ValDoes.of1 {st : St} {x : Operand} {run : Value → Sem Value} {v : GV} (h : Val1 P E st (st.ev x) run v) : ValDoes P E st (fun a => run (a.eval x)) v := by
  intro X n I μ a w hX hr hs
  exact h hX hr hs (hs.ev x)
theorem run_value {α : Type} {s : Sem α} {f : α → Next} {w w' : World} {x : α} (h : s.run P w = .ok x w') : (do pure (f (← s)) : Sem Next).run P w = .ok (f x) w' := by
  simp only [Sem.run_bind, h, Result.andThen_ok, Sem.run_pure]
theorem run_builtin {a : Act} {o : Oper} {b : Builtin} {args : Array Operand} {ts : Array TypeId} {w : World} (ho : o.op = .call { callee := .builtin b, args := args, argTypes := ts }) :
    (execOp a.eval o).run P w = (builtin b ts o.type (args.map fun | .const _ => true | _ => false) (args.map a.eval)).run P w := by
  simp only [execOp, ho, resolve, invoke, Sem.run_bind, Sem.run_pure, Result.andThen_ok]
  rfl
theorem one_arg {args : Array Operand} {a : Act} (h : args.size = 1) : args.map a.eval = #[a.eval (args.getD 0 (.const .nilIface))] := by
  apply Array.ext
  · simp [h]
  · intro i h1 h2
    have : i = 0 := by simp at h2; omega
    subst this
    simp [Array.getD, h]
theorem one_type {ts : Array TypeId} (h : ts.size = 1) : ts = #[ts.getD 0 0] := by
  apply Array.ext
  · simp [h]
  · intro i h1 h2
    have : i = 0 := by simp at h2; omega
    subst this
    simp [Array.getD, h]
theorem evCalm_inv (hE : EnvOk P E tB) {ρ : FuncId → Option (Callee R)} (hρ : RhoOk P E tB W0 ρ) {o : Oper} {st : St} {K : GV → Option R} (h : evCalm E ρ o st K = some r) :
    ∃ v, K v = some r ∧ CalmF P E tB W0 o st v := by
  unfold evCalm at h
  split at h
  · rename_i x ho
    refine ⟨_, h, ValDoes.f (run := fun a => pure (a.eval x)) (fun {X n I μ a w} hX hr hs => ⟨_, Sem.run_pure .., hX ▸ hs.evT o.type x⟩) fun a w y hy => ?_⟩
    simp only [Sem.run_pure, Result.ok.injEq, and_true] at hy
    simp only [execOp, ho, Sem.run_pure, hy]
  · rename_i x ho
    have h2 : ∃ v, v = st.evT E o.type x ∧ K v = some r := by
      split at h
      · cases h
      · exact ⟨_, rfl, h⟩
    obtain ⟨v, rfl, h⟩ := h2
    refine ⟨_, h, ValDoes.f (run := fun a => pure (a.eval x)) (fun {X n I μ a w} hX hr hs => ⟨_, Sem.run_pure .., hX ▸ hs.evT o.type x⟩) fun a w y hy => ?_⟩
    simp only [Sem.run_pure, Result.ok.injEq, and_true] at hy
    simp only [execOp, ho, Sem.run_pure, hy]
  · rename_i c x y ho
    obtain ⟨b, hb, h⟩ := wBool_inv h
    have key : ∀ (a : Act) (w : World), a.eval c = .bool b → (execOp a.eval o).run P w = .ok (.value (if b then a.eval x else a.eval y)) w := by
      intro a w hc
      simp only [execOp, ho, hc]
      cases b <;> simp [asBool]
    cases b
    · refine ⟨_, h, CalmDoes.f fun {X n I μ a w} hX _ hr hs => ?_⟩
      exact ⟨_, key a w (rep_bool (hb ▸ hs.ev c)), hX ▸ hs.evT o.type y⟩
    · refine ⟨_, h, CalmDoes.f fun {X n I μ a w} hX _ hr hs => ?_⟩
      exact ⟨_, key a w (rep_bool (hb ▸ hs.ev c)), hX ▸ hs.evT o.type x⟩
  · rename_i t parts ho
    split at h
    · rename_i fs ht
      obtain ⟨v, hv, hd⟩ := evBuild_inv hE ht h
      refine ⟨v, hv, ValDoes.f hd fun a w y hy => ?_⟩
      simp only [execOp, ho]
      exact run_value hy
    · cases h
  · rename_i t x ho
    obtain ⟨v, hv, hd⟩ := evLoad_inv hE h
    refine ⟨v, hv, ValDoes.f (run := fun a => Instr.loadAt t (a.eval x)) (fun {X n I μ a w} hX hr hs => hd hX hr hs (hs.ev x)) fun a w y hy => ?_⟩
    simp only [execOp, ho]
    exact run_value hy
  · rename_i x ho
    have key : ∀ (a : Act) (w : World) (A : Addr), a.eval x = .pointer (some A) → (execOp a.eval o).run P w = .ok (.value (.pointer (some A))) w := by
      intro a w A hc
      simp only [execOp, ho, hc, Sem.run_pure]
    split at h
    · rename_i q off hq
      refine ⟨_, h, CalmDoes.f fun {X n I μ a w} hX _ hr hs => ?_⟩
      have hx := hs.ev x
      rw [hq] at hx
      rcases hx with ⟨b, h1, e⟩ | ⟨b, bs, h1, h2, e⟩
      · exact ⟨_, key a w _ e, .inl ⟨b, h1, rfl⟩⟩
      · exact ⟨_, key a w _ e, .inr ⟨b, bs, h1, h2, rfl⟩⟩
    · rename_i q i off hq
      refine ⟨_, h, CalmDoes.f fun {X n I μ a w} hX _ hr hs => ?_⟩
      have hx := hs.ev x
      rw [hq] at hx
      obtain ⟨g, m, cap, c, h1, h2, h3, e⟩ := hx
      exact ⟨_, key a w _ e, g, m, cap, c, h1, h2, h3, rfl⟩
    · rename_i c es i off hq
      refine ⟨_, h, CalmDoes.f fun {X n I μ a w} hX _ hr hs => ?_⟩
      have hx := hs.ev x
      rw [hq] at hx
      obtain ⟨b, p, f, h1, h2, h3, h4, h5, e⟩ := hx
      exact ⟨_, key a w _ e, b, p, f, h1, h2, h3, h4, h5, rfl⟩
    · cases h
  · rename_i op t x y z ho
    obtain ⟨v, hv, hd⟩ := evBin_inv hE h
    refine ⟨v, hv, ValDoes.f (run := fun a => do eqGuard op t x y (a.eval x) (a.eval y); binOp op t (a.eval x) (a.eval y)) (fun {X n I μ a w} hX hr hs => hd hX hs) fun a w u hy => ?_⟩
    simp only [execOp, ho]
    exact run_value hy
  · rename_i op t x ho
    split at h
    · obtain ⟨b, hb, h⟩ := wBool_inv h
      refine ⟨_, h, ValDoes.f (run := fun a => Op.unary .not (a.eval x)) (fun {X n I μ a w} hX hr hs => ?_) fun a w u hy => ?_⟩
      · have e := rep_bool (hb ▸ hs.ev x)
        dsimp only
        rw [e]
        exact ⟨_, by simp [Op.unary], RepP.bool _⟩
      · simp only [execOp, ho]
        exact run_value hy
    · rename_i k hk
      obtain ⟨b, hb, h⟩ := wInt_inv h
      refine ⟨_, h, ValDoes.f (run := fun a => Op.unary .neg (a.eval x)) (fun {X n I μ a w} hX hr hs => ?_) fun a w u hy => ?_⟩
      · have e := rep_int (hb ▸ hs.ev x)
        dsimp only
        rw [e]
        exact ⟨_, by simp [Op.unary, Op.intArith], RepP.int _ _⟩
      · simp only [execOp, ho]
        exact run_value hy
    · cases h
  · rename_i s t x ho
    have ht : isSliceT (E.ty t) = false ∧ evConv E 0 st s t x (fun v _ => K v) = some r := by
      split at h
      · cases h
      · rename_i hne
        refine ⟨?_, h⟩
        cases hk : E.ty t with
        | slice e => exact absurd hk (hne e)
        | _ => rfl
    obtain ⟨v, hv, hd⟩ := evConv_inv hE ht.1 ht.2
    refine ⟨v, hv, ValDoes.f hd fun a w u hy => ?_⟩
    simp only [execOp, ho]
    exact run_value hy
  · rename_i f first captured ho
    rw [nbeq] at h
    by_cases hf : first.size = 0
    · simp only [hf, decide_true, cond_true] at h
      split at h
      · rename_i rs hrs
        have hl := allPtr_inv hrs
        refine ⟨_, h, CalmDoes.f fun {X n I μ a w} hX _ hr hs => ?_⟩
        have hfe : first = #[] := Array.eq_empty_of_size_eq_zero hf
        refine ⟨.func (.func f) #[] (captured.map a.eval), by simp [execOp, ho, Instr.makeFunc, hfe], captured.map a.eval, rfl, ?_, ?_⟩
        · have := congrArg List.length hl
          simpa using this
        · intro j q hj
          have h1 : (captured.toList.map st.ev)[j]? = some (.c (.ptr q 0)) := by rw [hl, List.getElem?_map, hj]; rfl
          rw [List.getElem?_map] at h1
          obtain ⟨x, hx, e⟩ := Option.map_eq_some_iff.1 h1
          have hrep := hs.ev x
          rw [e] at hrep
          have h2 : (captured.map a.eval).getD j undef = a.eval x := by
            rw [agetD, List.getD_eq_getElem?_getD]
            simp only [Array.toList_map, List.getElem?_map, hx, Option.map_some, Option.getD_some]
          rw [h2]
          exact hrep
      · cases h
    · simp [hf] at h
  · rename_i t x lo hi ho
    obtain ⟨v, hv, hd⟩ := evSlice_inv hE h
    refine ⟨v, hv, ValDoes.f hd fun a w u hy => ?_⟩
    simp only [execOp, ho]
    exact run_value hy
  · rename_i s x f ho
    obtain ⟨v, hv, _, hd⟩ := evAddr_inv hE h
    refine ⟨v, hv, ValDoes.f (ValDoes.of1 hd) fun a w u hy => ?_⟩
    simp only [execOp, ho]
    exact run_value hy
  · rename_i s x f ho
    obtain ⟨v, hv, hd⟩ := evField_inv hE h
    refine ⟨v, hv, ValDoes.f (ValDoes.of1 hd) fun a w u hy => ?_⟩
    simp only [execOp, ho]
    exact run_value hy
  · rename_i t x i ho
    obtain ⟨v, hv, hd⟩ := evIndexAddr_inv hE h
    refine ⟨v, hv, ValDoes.f hd fun a w u hy => ?_⟩
    simp only [execOp, ho]
    exact run_value hy
  · rename_i t x i ho
    obtain ⟨v, hv, hd⟩ := evIndex_inv hE h
    refine ⟨v, hv, ValDoes.f hd fun a w u hy => ?_⟩
    simp only [execOp, ho]
    exact run_value hy
  · rename_i x i ho
    split at h
    · rename_i vs hvs
      split at h
      · rename_i v hv
        refine ⟨_, h, CalmDoes.f fun {X n I μ a w} hX _ hr hs => ?_⟩
        have hx := hs.ev x
        rw [hvs] at hx
        obtain ⟨xs, e, h1, h2⟩ := hx
        have hlt : i < xs.size := by rw [← h1]; exact (List.getElem?_eq_some_iff.1 hv).1
        obtain ⟨y, hy1, hy2⟩ : ∃ y, xs[i]? = some y ∧ xs.getD i undef = y := ⟨xs[i], by simp [hlt], by simp [Array.getD, hlt]⟩
        refine ⟨y, ?_, hy2 ▸ h2 i v hv⟩
        simp only [execOp, ho, e]
        exact run_value (by simp [Instr.extract, hy1])
      · cases h
    · cases h
  · rename_i args ts ho
    cases hsz : Nat.beq ts.size 1 && Nat.beq args.size 1
    · simp [hsz] at h
    · simp only [hsz, cond_true] at h
      simp only [Bool.and_eq_true, nbeq, decide_eq_true_eq] at hsz
      obtain ⟨v, hv, hd⟩ := evLen_inv (ty := o.type) hE h
      refine ⟨v, hv, ValDoes.f hd fun a w u hy => ?_⟩
      rw [run_builtin ho, one_type hsz.1, one_arg hsz.2]
      exact run_value hy
  · rename_i args ts ho
    obtain ⟨v, hv, hd⟩ := evMinMax_inv (ts := ts) (ty := o.type) h
    refine ⟨v, hv, ValDoes.f hd fun a w u hy => ?_⟩
    rw [run_builtin ho]
    have e : (args.toList.map a.eval).toArray = args.map a.eval := by rw [← Array.toList_map]
    simp only [if_true, e] at hy
    exact run_value hy
  · rename_i args ts ho
    obtain ⟨v, hv, hd⟩ := evMinMax_inv (ts := ts) (ty := o.type) h
    refine ⟨v, hv, ValDoes.f hd fun a w u hy => ?_⟩
    rw [run_builtin ho]
    have e : (args.toList.map a.eval).toArray = args.map a.eval := by rw [← Array.toList_map]
    simp only [Bool.false_eq_true, if_false, e] at hy
    exact run_value hy
  · rename_i f args ts ho
    split at h
    · rename_i g hf
      split at h
      · rename_i F hg
        obtain ⟨hen, hp⟩ := hρ g _ hg
        rw [nbeq] at h
        by_cases hsz : ts.size = args.size
        · simp only [hsz, decide_true, cond_true] at h
          split at h
          · rename_i vs hvs
            obtain ⟨v, hv, hfn⟩ := hp vs K r h
            refine ⟨v, hv, fun {X n I μ a w} hX hB hW hr hs => ?_⟩
            have hfv := hs.ev f
            rw [hf] at hfv
            obtain ⟨cap, e1, e2, _⟩ := hfv
            have hcap : cap = #[] := Array.eq_empty_of_size_eq_zero e2
            subst hcap
            have hrun := run_call (w := w) ho e1 hen
            rw [Array.append_empty] at hrun
            have hlen : (wArgs E st (ts.toList.zip args.toList)).length = (args.map a.eval).toList.length := by
              rw [wArgs_length]; simp [hsz]
            obtain ⟨k1, k2⟩ := gpures_rep (I := I) (μ := μ) hvs hlen (fun i hi => by
              rw [← agetD, ← hX]
              rw [hlen] at hi
              exact hs.args ts args hsz i (by simpa using hi))
            refine .inr ⟨g, vs, args.map a.eval, hfn, hrun, by simpa using k1.symm, fun i hi => ?_⟩
            rw [agetD]
            exact k2 i hi
          · cases h
        · simp [hsz] at h
      · cases h
    · cases h
  · cases h
end
end Go.Dip
end
/- An ideal semantics of the model's code, part 16: new objects. -/
section
set_option linter.unusedVariables false
set_option linter.unusedSimpArgs false
namespace Go.Dip
section
variable {R : Type} {r : R} {P : Program} {E : Env} {tB : TypeId} {W0 : World}
theorem wNew_inv {d : Nat} {ob : Ob} {st : St} {K : St → Option R} (h : wNew E d ob st K = some r) : okNew E st.h ob = true ∧ K (newOb d ob st) = some r := by
  unfold wNew at h
  cases hk : okNew E st.h ob
  · simp [hk] at h
  · simp only [hk, cond_true] at h
    exact ⟨rfl, h⟩
theorem box_does {o : Oper} {st : St} {d : Nat} (hd : d < 1000) {cs : List CV} {T : TypeId} (hT : T ≠ E.tb) (hk : ∀ v, v ∈ cs → d ∉ v.keys)
    (hrun : ∀ {X : Cx} {n : Nat} {I : Mem} {μ : Locs} {a : Act} {w : World}, X.E = E → RowsOk μ → Sim X n I μ st a w →
      ∃ arr : Array Value, RepCs I μ cs arr.toList ∧ (execOp a.eval o).run P w = .ok (.value (.pointer (some ⟨w.heap.size, 0, none⟩))) (w.alloc (.cells arr T))) :
    OpDoes P E tB W0 o st (.c (.ptr d 0)) (newOb d (.box cs) (st.strike d)) := by
  intro X n I μ a w hX hB hW hr hs
  obtain ⟨arr, h1, h2⟩ := hrun hX hr hs
  refine Upon.of_run h2 ⟨I, upd μ d (.box w.heap.size), NewI.refl X I, ⟨hr.upd d _ fun v c e => (by cases e), Keep.upd μ _ (.inl hd)⟩, hs.newBox d cs arr T (by rw [hX]; exact hT) h1 hk rfl, ?_⟩
  exact .inl ⟨_, upd_same μ d _, rfl⟩
theorem row_does {o : Oper} {st : St} {st' : St} {d : Nat} (hd : d < 1000) {e : TypeId} {es : List PV} (hok : okNew E (st'.strike d).h (.row e es) = true)
    (hrun : ∀ {X : Cx} {n : Nat} {I : Mem} {μ : Locs} {a : Act} {w : World}, X.E = E → RowsOk μ → Sim X n I μ st a w →
      ∃ J v w' xs, NewI X I J ∧ Sim X n J μ st' a w ∧ w.grownBy w' none ∧ (execOp a.eval o).run P w = .ok (.value v) w' ∧ w'.ownsRow X.B e (E.sz e) v es.length xs ∧ RowRep J (E.sz e) es xs ∧
        ∀ b, v.ownBlock = some b → w.heap.size ≤ b) :
    OpDoes P E tB W0 o st (.c (.orow d)) (newOb d (.row e es) (st'.strike d)) := by
  intro X n I μ a w hX hB hW hr hs
  obtain ⟨J, v, w', xs, h1, h2, hg, h3, h4, h5, h6⟩ := hrun hX hr hs
  subst hX
  have h2' := h2.grown hg (Aside.none ..)
  refine Upon.of_run h3 ⟨J, upd μ d (.row v (X.E.sz e)), h1, ⟨hr.upd d _ ?_, Keep.upd μ _ (.inl hd)⟩, h2'.newRow d e es v xs h4 h5 ?_ hok, ?_⟩
  · intro v' c e'
    injection e' with e' _
    subst e'
    rcases h4.2 with ⟨e1, _⟩ | ⟨g, cap, cur, e1, _⟩
    · exact ⟨_, _, _, e1⟩
    · exact ⟨_, _, _, e1⟩
  · intro b hb
    obtain ⟨k1, k2, k3⟩ := (h2.strike d (ν := μ) fun _ _ => rfl).fresh (h6 b hb)
    exact ⟨k1, k2, k3⟩
  · exact ⟨_, upd_same μ d _⟩
theorem zeroOf_keys : ∀ (d : Nat) (t : TypeId) v, v ∈ zeroOf E d t → v.keys = []
  | 0, t, v, hv => by simp [zeroOf] at hv
  | d + 1, t, v, hv => by
    unfold zeroOf at hv
    split at hv
    case h_7 fs _ =>
      simp only [List.mem_flatMap] at hv
      obtain ⟨f, _, hf⟩ := hv
      exact zeroOf_keys d f.2 v hf
    all_goals (simp only [List.mem_singleton] at hv; subst hv; rfl)
theorem wElem_inv (hE : EnvOk P E tB) {e : TypeId} {v : PV} {K : PV → Option R} (h : wElem E e v K = some r) : K v = some r ∧ v.cnt = E.sz e ∧
    ∀ {I : Mem} {x : Value}, RepP I v x → x.cells.size = E.sz e ∧ ∀ j, j < E.sz e → RepP I (pcell v j) (x.cells.toList.getD j undef) ∧ (x.cells.toList.getD j undef).oneCell' = true := by
  unfold wElem at h
  cases hs : isStruct (E.ty e)
  · simp only [hs, cond_false] at h
    cases hc : isScalar (E.ty e) && v.isOne
    · simp [hc] at h
    · simp only [hc, cond_true] at h
      simp only [Bool.and_eq_true] at hc
      obtain ⟨_, _, _, _, _, _, hsz⟩ := hE.scalar e hc.1
      obtain ⟨k1, k2⟩ := PV.one_cells hc.2
      refine ⟨h, by rw [k2, hsz], fun {I x} hx => ?_⟩
      obtain ⟨k3, k4⟩ := hx.isOne hc.2
      rw [k4, hsz]
      refine ⟨rfl, fun j hj => ?_⟩
      have : j = 0 := by omega
      subst this
      simp only [pcell, k1]
      exact ⟨hx, k3⟩
  · simp only [hs, cond_true] at h
    cases hc : v.isAgg (E.sz e)
    · simp [hc] at h
    · simp only [hc, cond_true] at h
      refine ⟨h, ?_, fun {I x} hx => ?_⟩
      · cases v with
        | agg cs => simpa [PV.isAgg, PV.cnt] using hc
        | _ => simp [PV.isAgg] at hc
      · obtain ⟨vs, rfl, h1, h2⟩ := hx.isAgg hc
        exact ⟨h1, h2⟩
theorem wParts_inv (hE : EnvOk P E tB) {e : TypeId} : ∀ {parts : List (Nat × Operand)} {st : St} {n : Nat} {acc : List PV} {K : List PV → St → Option R}, wParts E e st parts n acc K = some r →
    ∃ es st', K (acc.reverse ++ es) st' = some r ∧ es.length = n ∧ parts.length = n ∧ (∀ j x, parts[j]? = some x → x.1 = acc.length + j) ∧
      ∀ {X : Cx} {m : Nat} {I : Mem} {μ : Locs} {a : Act} {w : World}, X.E = E → Sim X m I μ st a w → ∃ J, NewI X I J ∧ Sim X m J μ st' a w ∧
        ∀ j x, parts[j]? = some x → (es.getD j .any).cnt = E.sz e ∧ (a.eval x.2).cells.size = E.sz e ∧ ∀ i, i < E.sz e → RepP J (pcell (es.getD j .any) i) ((a.eval x.2).cells.toList.getD i undef) ∧ ((a.eval x.2).cells.toList.getD i undef).oneCell' = true
  | [], st, n, acc, K, h => by
    simp only [wParts, nbeq] at h
    by_cases hn : n = 0
    · simp only [hn, decide_true, cond_true] at h
      exact ⟨[], st, by simpa using h, hn.symm, hn.symm, fun j x hj => by simp at hj, fun {X m I μ a w} hX hs => ⟨I, NewI.refl X I, hs, fun j x hj => by simp at hj⟩⟩
    · simp [hn] at h
  | x :: parts, st, n, acc, K, h => by
    simp only [wParts, nbeq] at h
    by_cases hx : x.1 = acc.length
    · simp only [hx, decide_true, cond_true] at h
      cases n with
      | zero => simp at h
      | succ n =>
        simp only at h
        obtain ⟨y, st1, h, hp⟩ := wPure_inv h
        obtain ⟨h, hc, he⟩ := wElem_inv hE h
        obtain ⟨es, st2, h1, h2, h3, h4, h5⟩ := wParts_inv hE h
        refine ⟨y :: es, st2, by simpa using h1, by simp [h2], by simp [h3], ?_, ?_⟩
        · intro j z hz
          cases j with
          | zero => simp at hz; subst hz; simpa using hx
          | succ j =>
            have := h4 j z (by simpa using hz)
            simp at this
            omega
        · intro X m I μ a w hX hs
          obtain ⟨J, k1, k2, k3⟩ := hp.does hX hs
          obtain ⟨L, k4, k5, k6⟩ := h5 hX k2
          refine ⟨L, k1.trans k4, k5, fun j z hz => ?_⟩
          cases j with
          | zero =>
            simp at hz
            subst hz
            obtain ⟨k7, k8⟩ := he (k3.mono k4.1)
            exact ⟨by simpa using hc, k7, by simpa using k8⟩
          | succ j => simpa using k6 j z (by simpa using hz)
    · simp [hx] at h
theorem fill_parts {size : Nat} {vs : List Value} {zs : List Value} (hv : ∀ v, v ∈ vs → v.cells.size = size) (hz : zs.length = vs.length * size) :
    ∃ cells', Instr.fill (fun i => some (i * size, size)) zs.toArray (vs.zipIdx.map fun x => (x.2, x.1)) = some cells' ∧ cells'.toList = vs.flatMap fun v => v.cells.toList := by
  have key : ∀ (vs : List Value) (k : Nat) (pre suf : List Value), (∀ v, v ∈ vs → v.cells.size = size) → pre.length = k * size → suf.length = vs.length * size →
      ∃ cells', Instr.fill (fun i => some (i * size, size)) (pre ++ suf).toArray ((vs.zipIdx k).map fun x => (x.2, x.1)) = some cells' ∧ cells'.toList = pre ++ vs.flatMap fun v => v.cells.toList := by
    intro vs
    induction vs with
    | nil =>
      intro k pre suf _ _ h
      simp at h
      subst h
      exact ⟨_, rfl, by simp⟩
    | cons v vs ih =>
      intro k pre suf h1 h2 h3
      have hvs : v.cells.size = size := h1 v (by simp)
      have h3' : suf.length = vs.length * size + size := by simpa [Nat.add_mul] using h3
      obtain ⟨c1, c2, c3⟩ := fill_cons (fun i => some (i * size, size)) (pre ++ suf).toArray k (k * size) v ((vs.zipIdx (k + 1)).map fun x => (x.2, x.1)) (by simp [hvs]) (by simp; omega)
      rw [List.zipIdx_cons, List.map_cons, c3]
      have e : c1.toList = (pre ++ v.cells.toList) ++ suf.drop size := by
        rw [c2]
        simp only [splice]
        rw [← h2, List.take_left]
        have : (pre ++ suf).drop (pre.length + v.cells.toList.length) = suf.drop size := by
          rw [List.drop_append]
          simp [hvs]
        rw [this]
      have e2 : c1 = ((pre ++ v.cells.toList) ++ suf.drop size).toArray := by rw [← e]
      rw [e2]
      obtain ⟨c4, c5, c6⟩ := ih (k + 1) (pre ++ v.cells.toList) (suf.drop size) (fun u hu => h1 u (by simp [hu])) (by simp [h2, hvs, Nat.add_mul]) (by simp [h3'])
      exact ⟨c4, c5, by rw [c6]; simp⟩
  obtain ⟨c, h1, h2⟩ := key vs 0 [] zs hv (by simp) hz
  exact ⟨c, by simpa using h1, by simpa using h2⟩
end
end Go.Dip
end
/- An ideal semantics of the model's code, part 17: what makes an object, each. -/
section
set_option linter.unusedVariables false
set_option linter.unusedSimpArgs false
namespace Go.Dip
section
variable {R : Type} {r : R} {P : Program} {E : Env} {tB : TypeId} {W0 : World}
theorem run_zero {t : TypeId} {i : TypeInfo} {z : Value} (hi : P.info? t = some i) (hz : i.zero = some z) (w : World) : (zeroValue t).run P w = .ok z w := by
  simp [zeroValue, typeInfo, hi, hz]
theorem run_newVar' (t : TypeId) (v : Value) (w : World) : (newVar t v).run P w = .ok ⟨w.heap.size, 0, none⟩ (w.alloc (.cells v.cells t)) := by
  simp [newVar, newRow]
theorem alloc_inv (hE : EnvOk P E tB) {o : Oper} {d : Nat} (hd : d < 1000) {st : St} {t : TypeId} {K : GV → St → Option R} (ho : o.op = .alloc t)
    (h : (bif !Nat.beq t E.tb && (isStruct (E.ty t) || isScalar (E.ty t)) then K (.c (.ptr d 0)) (newOb d (.box (zeroOf E 6 t)) (st.strike d)) else none) = some r) :
    ∃ v st', K v st' = some r ∧ OpDoes P E tB W0 o st v st' := by
  cases hc : !Nat.beq t E.tb && (isStruct (E.ty t) || isScalar (E.ty t))
  · simp [hc] at h
  · simp only [hc, cond_true] at h
    simp only [Bool.and_eq_true, nbeq, Bool.not_eq_true', decide_eq_false_iff_not, Bool.or_eq_true] at hc
    obtain ⟨i, z, h1, h2, h3, _, _⟩ := hE.zero t hc.2
    refine ⟨_, _, h, box_does hd (T := t) hc.1 (fun v hv hk => by rw [zeroOf_keys _ _ v hv] at hk; cases hk) fun {X n I μ a w} hX hr hs => ⟨z.cells, h3 I μ, ?_⟩⟩
    simp only [execOp, ho]
    exact run_value (by simp [Instr.alloc, run_zero h1 h2, run_newVar'])
theorem box_inv (hE : EnvOk P E tB) {o : Oper} {d : Nat} (hd : d < 1000) {st : St} {t : TypeId} {x : Operand} {K : GV → St → Option R} (ho : o.op = .box t x)
    (h : (bif !Nat.beq t E.tb then wCells E t ((st.strike d).evT E t x) fun cs => K (.c (.ptr d 0)) (newOb d (.box cs) (st.strike d)) else none) = some r) :
    ∃ v st', K v st' = some r ∧ OpDoes P E tB W0 o st v st' := by
  cases hc : !Nat.beq t E.tb
  · simp [hc] at h
  · simp only [hc, cond_true] at h
    simp only [nbeq, Bool.not_eq_true', decide_eq_false_iff_not] at hc
    obtain ⟨cs, h, _, _, hk, hrep⟩ := wCells_inv hE h
    have hno : ∀ (y : Operand), d ∉ ((st.strike d).evT E t y).keys := by
      intro y
      unfold St.evT
      split
      · simp [GV.keys, CV.keys]
      · cases y with
        | tmp i =>
          simp only [St.ev, St.get]
          rw [look_strike_t]
          cases look st.t i with
          | none => simp [GV.any, GV.keys, CV.keys]
          | some v => exact GV.strike_keys d v
        | const v =>
          show d ∉ (ofConst v).keys
          unfold ofConst
          split <;> simp [GV.keys, CV.keys]
        | func f => simp [St.ev, GV.keys, CV.keys]
        | global g => simp [St.ev, GV.keys, CV.keys]
    refine ⟨_, _, h, box_does hd (T := t) hc (fun v hv hd => hno x (hk v hv d hd)) fun {X n I μ a w} hX hr hs => ?_⟩
    have h1 := (hs.strike d (ν := μ) fun _ _ => rfl).evT t x
    rw [hX] at h1
    refine ⟨_, (hrep hr h1).1, ?_⟩
    simp only [execOp, ho]
    exact run_value (by simp [Instr.box, run_newVar'])
theorem assign_inv (hE : EnvOk P E tB) {o : Oper} {d : Nat} (hd : d < 1000) {st : St} {x : Operand} {c : Nat} {e : TypeId} {K : GV → St → Option R} (ho : o.op = .assign x) (hx : st.evT E o.type x = .c (.nils c)) (ht : E.ty o.type = .slice e)
    (h : (wNew E d (.row e []) (st.strike d) fun st => K (.c (.orow d)) st) = some r) : ∃ v st', K v st' = some r ∧ OpDoes P E tB W0 o st v st' := by
  obtain ⟨hok, h⟩ := wNew_inv h
  refine ⟨_, _, h, row_does hd hok fun {X n I μ a w} hX hr hs => ?_⟩
  have h1 := hs.evT o.type x
  rw [hX, hx] at h1
  have h2 : a.eval x = .slice none 0 0 := h1
  exact ⟨I, _, w, [], NewI.refl X I, hs, ⟨rfl, rfl, rfl, Nat.le_refl _, fun _ _ _ => rfl⟩, by simp only [execOp, ho, Sem.run_pure, h2], World.ownsRow_nil w X.B e (E.sz e), fun i hi => by simp at hi, fun b hb => by simp [Value.ownBlock] at hb⟩
theorem flat_getD {size : Nat} {u : Value} : ∀ (ls : List (List Value)), (∀ l, l ∈ ls → l.length = size) → ∀ (i : Nat) l, ls[i]? = some l → ∀ j, j < size → ls.flatten.getD (i * size + j) u = l.getD j u
  | [], _, i, l, hi, j, hj => by simp at hi
  | k :: ls, h, 0, l, hi, j, hj => by
    simp only [List.getElem?_cons_zero, Option.some.injEq] at hi
    subst hi
    have hk := h k (by simp)
    simp only [List.flatten_cons, Nat.zero_mul, Nat.zero_add, List.getD_eq_getElem?_getD]
    rw [List.getElem?_append_left (by omega)]
  | k :: ls, h, i + 1, l, hi, j, hj => by
    have hk := h k (by simp)
    have ih := flat_getD (u := u) ls (fun l hl => h l (by simp [hl])) i l (by simpa using hi) j hj
    rw [← ih]
    simp only [List.flatten_cons, List.getD_eq_getElem?_getD]
    rw [List.getElem?_append_right (by rw [hk, Nat.add_mul]; omega)]
    congr 2
    rw [hk, Nat.add_mul]
    omega
theorem flat_length {size : Nat} : ∀ (ls : List (List Value)), (∀ l, l ∈ ls → l.length = size) → ls.flatten.length = ls.length * size
  | [], _ => by simp
  | k :: ls, h => by
    have hk := h k (by simp)
    have ih := flat_length ls fun l hl => h l (by simp [hl])
    simp only [List.flatten_cons, List.length_append, List.length_cons, Nat.add_mul]
    omega
theorem buildSlice_run (hE : EnvOk P E tB) {o : Oper} {t e : TypeId} {len : Nat} {parts : Array (Nat × Operand)} (ho : o.op = .buildSlice t len parts) (ht : E.ty t = .slice e) (hle : len * E.sz e ≤ 16777216) {es : List PV} (hl : es.length = len) (hpl : parts.toList.length = len)
    (hidx : ∀ (j : Nat) x, parts.toList[j]? = some x → x.1 = 0 + j) {J : Mem} {a : Act} {w : World} {B : Nat} (hB : B ≤ w.heap.size)
    (k3 : ∀ (j : Nat) x, parts.toList[j]? = some x → (es.getD j .any).cnt = E.sz e ∧ (a.eval x.2).cells.size = E.sz e ∧ ∀ i, i < E.sz e → RepP J (pcell (es.getD j .any) i) ((a.eval x.2).cells.toList.getD i undef) ∧ ((a.eval x.2).cells.toList.getD i undef).oneCell' = true) :
    ∃ v w' xs, w.grownBy w' none ∧ (execOp a.eval o).run P w = .ok (.value v) w' ∧ w'.ownsRow B e (E.sz e) v es.length xs ∧ RowRep J (E.sz e) es xs ∧ ∀ b, v.ownBlock = some b → w.heap.size ≤ b := by
  obtain ⟨hu, i, z, hi, hsz, hz, hzc, hpos, _, h64⟩ := hE.slice t e ht
  have hvs : ∀ v, v ∈ parts.toList.map (fun x => a.eval x.2) → v.cells.size = E.sz e := by
    intro v hv
    obtain ⟨x, hx, rfl⟩ := List.mem_map.1 hv
    obtain ⟨j, hj⟩ := List.getElem?_of_mem hx
    exact (k3 j x hj).2.1
  have hparts : (parts.map fun x => (x.1, a.eval x.2)).toList = (parts.toList.map fun x => a.eval x.2).zipIdx.map fun x => (x.2, x.1) := by
    apply List.ext_getElem?
    intro j
    simp only [Array.toList_map, List.getElem?_map, List.getElem?_zipIdx]
    cases hj : parts.toList[j]? with
    | none => simp
    | some x =>
      have := hidx j x hj
      simp at this
      simp [this]
  have hfill : ∀ zs : Array Value, zs.size = len * E.sz e → ∃ c, Instr.fill (fun i => some (i * E.sz e, E.sz e)) zs (parts.map fun x => (x.1, a.eval x.2)).toList = some c ∧ c.toList = (parts.toList.map fun x => (a.eval x.2).cells.toList).flatten := by
    intro zs hzs
    obtain ⟨c, c1, c2⟩ := fill_parts (size := E.sz e) (vs := parts.toList.map fun x => a.eval x.2) (zs := zs.toList) hvs (by rw [List.length_map, hpl, Array.length_toList]; exact hzs)
    rw [hparts]
    refine ⟨c, c1, ?_⟩
    rw [c2, List.flatMap_def, List.map_map]
    rfl
  obtain ⟨c, hc1, hc2⟩ := hfill ((Array.range (len * E.sz e)).map (((if len * E.sz e = 0 then #[] else z.cells) : Array Value)[· % ((if len * E.sz e = 0 then #[] else z.cells) : Array Value).size]!)) (by simp)
  have hrun : (execOp a.eval o).run P w = .ok (.value (.slice (some ⟨w.heap.size, 0, none⟩) len len)) (w.alloc (.cells c e)) := by
    simp only [execOp, ho]
    refine run_value ?_
    have hsize : (sizeOf e).run P w = .ok (E.sz e) w := by simp [sizeOf, typeInfo, hi, hsz]
    unfold Instr.buildSlice
    simp only [Sem.run_bind, run_underlying hu, Result.andThen_ok, hsize]
    rw [if_neg (by omega)]
    by_cases h0 : len * E.sz e = 0
    · simp only [h0, if_true, if_false] at hc1 ⊢
      simp only [Sem.run_pure, Sem.run_bind, Result.andThen_ok, hc1]
      simp [newRow]
    · simp only [h0, if_false] at hc1 ⊢
      simp only [Sem.run_pure, Sem.run_bind, Result.andThen_ok, run_zero hi hz, hc1]
      simp [newRow]
  have hls : ∀ l, l ∈ (parts.toList.map fun x => (a.eval x.2).cells.toList) → l.length = E.sz e := by
    intro l hl
    obtain ⟨x, hx, rfl⟩ := List.mem_map.1 hl
    have := hvs (a.eval x.2) (List.mem_map.2 ⟨x, hx, rfl⟩)
    simpa using this
  refine ⟨_, _, c.toList, grownBy_alloc' w _ none, hrun, ⟨?_, .inr ⟨w.heap.size, len, c, by rw [hl], hB, heap_alloc_new w _, by omega, ?_, ?_, ?_⟩⟩, ?_, fun b hb => by simp [Value.ownBlock] at hb; omega⟩
  · rw [hc2, flat_length _ hls]; simp [hpl, hl]
  · have : len * 1 ≤ len * E.sz e := Nat.mul_le_mul_left _ hpos
    simp only [maxLen]
    omega
  · have := flat_length _ hls
    rw [← hc2] at this
    simpa [hpl] using this
  · rw [List.take_of_length_le]
    have := flat_length _ hls
    rw [← hc2] at this
    rw [List.length_map, hpl] at this
    rw [this, hl]
    exact Nat.le_refl _
  · intro j hj
    have hj' : j < parts.toList.length := by rw [hpl, ← hl]; exact hj
    have hx : parts.toList[j]? = some parts.toList[j] := by simp
    obtain ⟨m1, m2, m3⟩ := k3 j _ hx
    refine ⟨m1, fun q hq => ?_⟩
    have := flat_getD (u := undef) _ hls j (a.eval parts.toList[j].2).cells.toList (by rw [List.getElem?_map, hx]; rfl) q hq
    rw [hc2, this]
    exact m3 q hq
theorem buildSlice_inv (hE : EnvOk P E tB) {o : Oper} {d : Nat} (hd : d < 1000) {st : St} {t e : TypeId} {len : Nat} {parts : Array (Nat × Operand)} {K : GV → St → Option R} (ho : o.op = .buildSlice t len parts) (ht : E.ty t = .slice e)
    (h : (bif Nat.ble (len * E.sz e) 16777216 then wParts E e st parts.toList len [] fun es st => wNew E d (.row e es) (st.strike d) fun st => K (.c (.orow d)) st else none) = some r) :
    ∃ v st', K v st' = some r ∧ OpDoes P E tB W0 o st v st' := by
  cases hb : Nat.ble (len * E.sz e) 16777216
  · simp [hb] at h
  · simp only [hb, cond_true] at h
    have hle := Nat.le_of_ble_eq_true hb
    obtain ⟨es, st1, h, hl, hpl, hidx, hrep⟩ := wParts_inv hE h
    obtain ⟨hok, h⟩ := wNew_inv h
    simp only [List.reverse_nil, List.nil_append] at h hok
    refine ⟨_, _, h, row_does hd hok fun {X n I μ a w} hX hr hs => ?_⟩
    obtain ⟨J, k1, k2, k3⟩ := hrep hX hs
    obtain ⟨v, w', xs, m1, m2, m3, m4, m5⟩ := buildSlice_run (B := X.B) hE ho ht hle hl hpl hidx hs.bw k3
    exact ⟨J, v, w', xs, k1, k2, m1, m2, m3, m4, m5⟩
end
end Go.Dip
end
