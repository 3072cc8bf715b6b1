/- Joined by program out of: Core1, Core2, Core3, Core4, Core5, Core6, Core7, Core8, Core9. -/
import Derived.Calls
import Derived.RowKit
import Derived.Below
import Derived.Laws.Cells
import Derived.Laws.CopyRow
import Derived.Laws.AppendOwn
import Derived.Lib.FrozenHead2
import Derived.Lib.OthersKept
import Derived.Lib.UnsafeStr
import Derived.Laws.Strings
import Derived.Laws.Entries
import Derived.Laws.Tables
import Derived.Laws.Slices
import Derived.Laws.Strings2
import Derived.Laws.Concat
import Derived.Laws.StructEq
set_option linter.all false
/- An ideal semantics of the model's code, part 1: ghost values and states, and an evaluator in continuation style. No program in it. -/
section
namespace Go.Dip

/-- What is only read: a tree. mp: a map; erow, ebox: a row, a block of the call's own that one cell alone leads to (they stand in an object's cells alone). -/
inductive PV where
  | any
  | gone
  | bool (b : Bool)
  | int (k : IntKind) (n : Int)
  | str (s : List UInt8)
  | agg (cs : List PV)
  | sl (c : Nat) (es : List PV)
  | fn (f : FuncId)
  | nilp
  | nilif
  | someif
  | mp (kvs : List (PV × PV))
  | erow (e : TypeId) (es : List PV)
  | ebox (cs : List PV)
instance : Inhabited PV := ⟨.any⟩

def PV.cnt : PV → Nat
  | .any => 0
  | .gone => 0
  | .agg cs => cs.length
  | _ => 1
def PV.cells : PV → List PV
  | .agg cs => cs
  | v => [v]
def PV.isAgg (n : Nat) : PV → Bool
  | .agg cs => cs.length == n
  | _ => false
/-- One cell, not a struct. -/
def PV.isOne : PV → Bool
  | .any => false
  | .gone => false
  | .agg _ => false
  | _ => true
def isOwned : PV → Bool
  | .erow _ _ => true
  | .ebox _ => true
  | _ => false
/-- What is read of a cell. -/
def PV.seen (v : PV) : PV := bif isOwned v then .any else v
def isErow (e : TypeId) : PV → Bool
  | .erow e' _ => Nat.beq e' e
  | _ => false
def rowOf : PV → List PV
  | .erow _ es => es
  | _ => []
def isEbox (n : Nat) : PV → Bool
  | .ebox cs => Nat.beq cs.length n
  | _ => false
def boxOf : PV → List PV
  | .ebox cs => cs
  | _ => []
def isMp : PV → Bool
  | .mp _ => true
  | _ => false
def mapOf : PV → List (PV × PV)
  | .mp l => l
  | _ => []
def pcell (e : PV) (j : Nat) : PV := e.cells.getD j .any
def pat (es : List PV) (i : Int) : PV := es.getD i.toNat .any
def isInt (k : IntKind) : PV → Bool
  | .int k' _ => decide (k' = k)
  | _ => false
def intOf : PV → Int
  | .int _ n => n
  | _ => 0
def isStr : PV → Bool
  | .str _ => true
  | _ => false
def strOf : PV → List UInt8
  | .str s => s
  | _ => []
def isBool : PV → Bool
  | .bool _ => true
  | _ => false
def boolOf : PV → Bool
  | .bool b => b
  | _ => false
def isSl (c : Nat) : PV → Bool
  | .sl c' _ => Nat.beq c' c
  | _ => false
def slOf : PV → List PV
  | .sl _ es => es
  | _ => []

/-- A cell's value; r: the key of an object of the call's own. -/
inductive CV where
  | p (v : PV)
  | nils (c : Nat)
  | orow (r : Nat)
  | osub (r : Nat) (lo hi : Int)
  | ptr (r : Nat) (off : Nat)
  | ptrE (r : Nat) (i : Int) (off : Nat)
  | iptr (c : Nat) (es : List PV) (i : Int) (off : Nat)
  | fn (f : FuncId) (rs : List Nat)
  | glob (g : Nat)
  | own (v : PV)
  | omap (r : Nat)
instance : Inhabited CV := ⟨.p .any⟩

inductive GV where
  | c (v : CV)
  | agg (cs : List CV)
  | tup (vs : List CV)
instance : Inhabited GV := ⟨.c (.p .any)⟩
abbrev GV.any : GV := .c (.p .any)
abbrev GV.pv (v : PV) : GV := .c (.p v)

/-- An object of the call's own: a variable's block; a row that grows (e: the elements' type); a strings.Builder; a row in whose cells owned rows and blocks may stand; a map; what goes over a map. ho: the cell that leads to an object of its own now. -/
inductive Ob where
  | box (cs : List CV)
  | row (e : TypeId) (es : List PV)
  | bld (s : List UInt8)
  | deep (e : TypeId) (es : List PV) (ho : Option (Nat × Nat × CV))
  | tab (kvs : List (PV × PV)) (ho : Option (PV × CV))
  | it (rem : List (PV × PV)) (cur : Option (PV × PV))
instance : Inhabited Ob := ⟨.box []⟩

/-- A row's elements' type, how many they are. -/
def Ob.asRow : Ob → Option (TypeId × Nat)
  | .row e es => some (e, es.length)
  | .deep e es _ => some (e, es.length)
  | _ => none
def look {α : Type} : List (Nat × α) → Nat → Option α
  | [], _ => none
  | x :: l, i => bif Nat.beq i x.1 then some x.2 else look l i
def drop {α : Type} (i : Nat) : List (Nat × α) → List (Nat × α)
  | [] => []
  | x :: l => bif Nat.beq i x.1 then drop i l else x :: drop i l

structure St where
  t : List (Nat × GV)
  h : List (Nat × Ob)

def St.rlen (st : St) (r : Nat) : Option (TypeId × Nat) := match look st.h r with
  | some o => o.asRow
  | none => none
def St.get (st : St) (i : Nat) : GV := (look st.t i).getD .any
def St.put (st : St) (d : Option Nat) (v : GV) : St :=
  match d with
  | some d => { st with t := (d, v) :: st.t }
  | none => st

/-! References to an object, struck or told as what is only read. -/
def CV.strike (r : Nat) : CV → CV
  | .orow q => bif Nat.beq q r then .p .any else .orow q
  | .osub q a b => bif Nat.beq q r then .p .any else .osub q a b
  | .ptr q o => bif Nat.beq q r then .p .any else .ptr q o
  | .ptrE q i o => bif Nat.beq q r then .p .any else .ptrE q i o
  | .fn f rs => bif rs.any (Nat.beq r ·) then .p .any else .fn f rs
  | .omap q => bif Nat.beq q r then .p .any else .omap q
  | v => v
def GV.map (f : CV → CV) : GV → GV
  | .c v => .c (f v)
  | .agg cs => .agg (cs.map f)
  | .tup cs => .tup (cs.map f)
def Ob.map (f : CV → CV) : Ob → Ob
  | .box cs => .box (cs.map f)
  | .deep e es ho => .deep e es (ho.map fun x => (x.1, x.2.1, f x.2.2))
  | .tab kvs ho => .tab kvs (ho.map fun x => (x.1, f x.2))
  | o => o
def St.map (f : CV → CV) (st : St) : St :=
  { t := st.t.map fun x => (x.1, x.2.map f), h := st.h.map fun x => (x.1, x.2.map f) }
/-- The object r is forgotten, and all that points to it. -/
def St.strike (r : Nat) (st : St) : St := St.map (CV.strike r) { st with h := drop r st.h }
def sub {α : Type} (es : List α) (lo hi : Int) : List α := (es.drop lo.toNat).take (hi - lo).toNat
def CV.thaw (r c : Nat) (es : List PV) : CV → CV
  | .orow q => bif Nat.beq q r then .p (.sl c es) else .orow q
  | .osub q a b => bif Nat.beq q r then .p (.sl c (sub es a b)) else .osub q a b
  | .ptrE q i o => bif Nat.beq q r then .iptr c es i o else .ptrE q i o
  | v => v
def CV.rows : CV → List Nat
  | .orow r => [r]
  | .osub r _ _ => [r]
  | .ptrE r _ _ => [r]
  | .omap r => [r]
  | _ => []
def GV.rows : GV → List Nat
  | .c v => v.rows
  | .agg cs => cs.flatMap CV.rows
  | .tup cs => cs.flatMap CV.rows
def CV.pure? : CV → Option PV
  | .p v => some v
  | .nils c => some (.sl c [])
  | .fn f [] => some (.fn f)
  | _ => none
def pures : List CV → Option (List PV)
  | [] => some []
  | v :: l => match v.pure?, pures l with
    | some x, some xs => some (x :: xs)
    | _, _ => none
def GV.pure? : GV → Option PV
  | .c v => v.pure?
  | .agg cs => (pures cs).map .agg
  | .tup _ => none
/-- Cells of what is kept together: a pure tree, where all of them are. -/
def allP : List CV → Option (List PV)
  | [] => some []
  | .p v :: l => match allP l with
    | some xs => some (v :: xs)
    | none => none
  | _ :: _ => none
def mkAgg (cs : List CV) : GV :=
  match allP cs with
  | some ps => .c (.p (.agg ps))
  | none => .agg cs

/-! Types, as far as the evaluator asks. -/
inductive TK where
  | int (k : IntKind)
  | bool
  | str
  | slice (e : TypeId)
  | ptr (e : TypeId)
  | struct (fs : List (Nat × TypeId))
  | iface
  | fn
  | bld
  | other
  | mapt (k e : TypeId)
/-- What each type is, its cells, its bytes; the number of the type byte; whether rows of such elements may hold owned rows. -/
structure Env where
  ty : TypeId → TK
  sz : TypeId → Nat
  by_ : TypeId → Nat
  tb : TypeId
  dp : TypeId → Bool
/-- What an owned row is, when it is only read. -/
def PV.un1 (E : Env) (v : PV) : PV := match v with
  | .erow e es => .sl (E.sz e) es
  | v => v
def PV.unown (E : Env) (v : PV) : PV := match v with
  | .agg cs => .agg (cs.map (PV.un1 E))
  | v => v.un1 E
def PV.frz (v : PV) : Bool := v.cells.all fun x => match x with
  | .ebox _ => false
  | _ => true
def keyLt : PV → PV → Bool
  | .int _ a, .int _ b => decide (a < b)
  | .str a, .str b => Op.bytesLess a b
  | .bool a, .bool b => !a && b
  | _, _ => false
def insK (x : PV × PV) : List (PV × PV) → List (PV × PV)
  | [] => [x]
  | y :: l => bif keyLt x.1 y.1 then x :: y :: l else y :: insK x l
/-- A map's entries by their keys. -/
def sortK (l : List (PV × PV)) : List (PV × PV) := l.foldr insK []
def CV.thawM (r : Nat) (kvs : List (PV × PV)) : CV → CV
  | .omap q => bif Nat.beq q r then .p (.mp kvs) else .omap q
  | v => v
/-- The row (or map) r will not be written any more: it is told as what is only read. -/
def St.freeze (E : Env) (r : Nat) (st : St) : St :=
  match look st.h r with
  | some (.row e es) => bif Nat.beq e E.tb then st else St.map (CV.thaw r (E.sz e) es) { st with h := drop r st.h }
  | some (.deep e es none) => bif es.all PV.frz then St.map (CV.thaw r (E.sz e) (es.map (PV.unown E))) { st with h := drop r st.h } else st
  | some (.tab kvs none) => bif kvs.all (fun x => PV.frz x.2) then St.map (CV.thawM r (sortK (kvs.map fun x => (x.1, PV.un1 E x.2)))) { st with h := drop r st.h } else st
  | _ => st
def St.freezeAll (E : Env) (rs : List Nat) (st : St) : St := rs.foldl (fun st r => st.freeze E r) st
def Ob.isBld : Ob → Bool
  | .bld _ => true
  | _ => false
def Ob.isByte (E : Env) : Ob → Bool
  | .row e _ => Nat.beq e E.tb
  | _ => false
/-- A builder is alone: no other one beside it, no row of bytes. -/
def okNew (E : Env) (h : List (Nat × Ob)) (o : Ob) : Bool :=
  bif o.isBld then h.all fun x => !x.2.isBld && !x.2.isByte E else bif o.isByte E then h.all fun x => !x.2.isBld else true
def okHeap (E : Env) : List (Nat × Ob) → Bool
  | [] => true
  | x :: l => okNew E l x.2 && okHeap E l
def Env.elem (E : Env) (t : TypeId) : TypeId := match E.ty t with | .slice e => e | .ptr e => e | _ => 0
def isStruct : TK → Bool
  | .struct _ => true
  | _ => false
/-- Types of one cell. -/
def isScalar : TK → Bool
  | .struct _ => false
  | .bld => false
  | .other => false
  | _ => true
def zeroOf (E : Env) : Nat → TypeId → List CV
  | 0, _ => []
  | d + 1, t => match E.ty t with
    | .int k => [.p (.int k 0)]
    | .bool => [.p (.bool false)]
    | .str => [.p (.str [])]
    | .slice e => [.nils (E.sz e)]
    | .ptr _ => [.p .nilp]
    | .iface => [.p .nilif]
    | .struct fs => fs.flatMap fun f => zeroOf E d f.2
    | _ => [.p .any]

/-- How many bytes and items at most. -/
def LIM : Nat := 549755813888

/-- A callee: by plain values alone, or with objects that it may change. -/
inductive Callee (R : Type) where
  | pure (f : List PV → (GV → Option R) → Option R)
  | heap (f : List GV → List (Nat × Ob) → (GV → List (Nat × Ob) → Option R) → Option R)
abbrev Rho := (R : Type) → FuncId → Option (Callee R)
abbrev Lam := (R : Type) → Nat → Option (St → (Exit → St → Option R) → Option R)

def dcell (es : List PV) (ho : Option (Nat × Nat × CV)) (i j : Nat) : CV :=
  match ho with
  | some x => bif Nat.beq i x.1 && Nat.beq j x.2.1 then x.2.2 else .own (pcell (es.getD i .any) j)
  | none => .own (pcell (es.getD i .any) j)
def delem (c : Nat) (es : List PV) (ho : Option (Nat × Nat × CV)) (i : Nat) : List CV := (List.range c).map fun j => dcell es ho i j
def sameKey : PV → PV → Bool
  | .int k a, .int l b => decide (k = l) && decide (a = b)
  | .str a, .str b => decide (a = b)
  | .bool a, .bool b => a == b
  | _, _ => false
def isKey : PV → Bool
  | .int _ _ => true
  | .str _ => true
  | .bool _ => true
  | _ => false
def psetCell (el : PV) (off : Nat) (v : PV) : PV := match el with
  | .agg cs => .agg (cs.set off v)
  | el => bif Nat.beq off 0 then v else el
def setOb (r : Nat) (o : Ob) (st : St) : St := { st with h := (r, o) :: drop r st.h }
def newOb (d : Nat) (o : Ob) (st : St) : St := { st with h := (d, o) :: st.h }
def strikeAll (ks : List Nat) (st : St) : St := ks.foldl (fun st r => st.strike r) st
def dropAll {α : Type} (ks : List Nat) (l : List (Nat × α)) : List (Nat × α) := ks.foldl (fun l r => drop r l) l
def Ob.strikes (zs : List Nat) (v : Ob) : Ob := zs.foldl (fun v r => v.map (CV.strike r)) v
def isIn (ks : List Nat) (r : Nat) : Bool := ks.any (Nat.beq r ·)
def distinct : List Nat → Bool
  | [] => true
  | x :: l => !isIn l x && distinct l
def psetOk (el v : PV) : Bool := match el with
  | .agg _ => true
  | _ => v.isOne
/-! An object that one cell alone leads to, kept inside that cell; and taken out again. -/
def seqT : List (Option (PV × List Nat)) → Option (List PV × List Nat)
  | [] => some ([], [])
  | x :: l => match x, seqT l with
    | some y, some ys => some (y.1 :: ys.1, y.2 ++ ys.2)
    | _, _ => none
def treeC (E : Env) (h : List (Nat × Ob)) : Nat → CV → Option (PV × List Nat)
  | 0, _ => none
  | n + 1, v => match v with
    | .p v => some (v, [])
    | .own v => some (v, [])
    | .nils c => some (.sl c [], [])
    | .orow d => match look h d with
      | some (.row e es) => bif Nat.beq e E.tb then none else some (.erow e es, [d])
      | _ => none
    | .ptr d o => bif Nat.beq o 0 then match look h d with
        | some (.box cs) => match seqT (cs.map (treeC E h n)) with
          | some ys => some (.ebox ys.1, d :: ys.2)
          | none => none
        | _ => none
      else none
    | _ => none
def St.refold (r : Nat) (ds : List Nat) (o : Ob) (st : St) : St := setOb r (o.strikes ds) (strikeAll ds { st with h := dropAll ds st.h })
def St.foldAt (E : Env) (r j : Nat) (st : St) : St := match look st.h r with
  | some (.box cs) => match cs[j]? with
    | some cv => match treeC E st.h 5 cv with
      | some x => bif distinct (r :: x.2) then st.refold r x.2 (.box (cs.set j (.own x.1))) else st
      | none => st
    | none => st
  | some (.deep e es (some y)) => match treeC E st.h 5 y.2.2 with
    | some x => bif distinct (r :: x.2) && (Nat.blt y.1 es.length && (Nat.blt y.2.1 (E.sz e) && psetOk (es.getD y.1 .any) x.1)) then st.refold r x.2 (.deep e (es.set y.1 (psetCell (es.getD y.1 .any) y.2.1 x.1)) none) else st
    | none => st
  | some (.tab kvs (some y)) => match treeC E st.h 5 y.2 with
    | some x => bif distinct (r :: x.2) then st.refold r x.2 (.tab (kvs.map fun z => bif sameKey y.1 z.1 then (z.1, x.1) else z) none) else st
    | none => st
  | _ => st
/-- What is opened in rows and maps is folded back. -/
def St.foldRow (E : Env) (r : Nat) (st : St) : St := match look st.h r with
  | some (.deep _ _ (some _)) => st.foldAt E r 0
  | some (.tab _ (some _)) => st.foldAt E r 0
  | _ => st
def St.foldAll (E : Env) (rs : List Nat) (st : St) : St := rs.foldl (fun st r => st.foldRow E r) st
def openOb : PV → Ob
  | .erow e es => .row e es
  | .ebox cs => .box (cs.map .own)
  | _ => .box []
def openRef (d : Nat) : PV → CV
  | .erow _ _ => .orow d
  | _ => .ptr d 0
/-- A cell of the object r is opened as the object d. -/
def St.openAt (r d : Nat) (v : PV) (o : Ob) (st : St) : St := newOb d (openOb v) (setOb r o (st.strike d))

def CV.keys : CV → List Nat
  | .orow r => [r]
  | .osub r _ _ => [r]
  | .ptr r _ => [r]
  | .ptrE r _ _ => [r]
  | .fn _ rs => rs
  | .omap r => [r]
  | _ => []
def GV.keys : GV → List Nat
  | .c v => v.keys
  | .agg cs => cs.flatMap CV.keys
  | .tup cs => cs.flatMap CV.keys
section ops
variable {R : Type}
def ofConst : Value → GV
  | .bool b => .pv (.bool b)
  | .int k n => .pv (.int k n)
  | .string s => .pv (.str s.data.toList)
  | .pointer none => .pv .nilp
  | .nilIface => .pv .nilif
  | _ => .any
/-- A method that is bound to what it is called on is told by a number of its own. -/
def bnd (f : FuncId) : Bool := Nat.ble 1000000 f
def unb (f : FuncId) : FuncId := bif bnd f then Nat.sub f 1000000 else f
def St.ev (st : St) : Operand → GV
  | .tmp t => st.get t
  | .const v => ofConst v
  | .func f => bif bnd f then .any else .c (.fn f [])
  | .global g => .c (.glob g)

/-- An operand's value at a type: a nil slice is told with the size of its elements. -/
def St.evT (E : Env) (st : St) (t : TypeId) : Operand → GV
  | .const (.slice none 0 0) => .c (.nils (E.sz (E.elem t)))
  | x => st.ev x

def wP (v : GV) (K : PV → Option R) : Option R := match v with | .c (.p x) => K x | _ => none
def wInt (k : IntKind) (v : GV) (K : Int → Option R) : Option R := wP v fun x => bif isInt k x then K (intOf x) else none
def wStr (v : GV) (K : List UInt8 → Option R) : Option R := wP v fun x => bif isStr x then K (strOf x) else none
def wBool (v : GV) (K : Bool → Option R) : Option R := wP v fun x => bif isBool x then K (boolOf x) else none
/-- As what is only read; rows in it are told so from now on. -/
def wPure (E : Env) (st : St) (t : TypeId) (x : Operand) (K : PV → St → Option R) : Option R :=
  let st' := st.freezeAll E (st.evT E t x).rows
  match (st'.evT E t x).pure? with
  | some v => K v st'
  | none => none
def wPures (E : Env) : St → List (TypeId × Operand) → List PV → (List PV → St → Option R) → Option R
  | st, [], acc, K => K acc.reverse st
  | st, x :: l, acc, K => wPure E st x.1 x.2 fun v st => wPures E st l (v :: acc) K
/-- The cells of a value of type t. -/
def wCells (E : Env) (t : TypeId) (v : GV) (K : List CV → Option R) : Option R :=
  bif isStruct (E.ty t) then
    match v with
    | .c (.p x) => bif x.isAgg (E.sz t) then K ((List.range (E.sz t)).map fun j => .p (pcell x j)) else none
    | .agg cs => bif Nat.beq cs.length (E.sz t) then K cs else none
    | _ => none
  else bif isScalar (E.ty t) then
    match v with
    | .c (.p x) => bif x.isOne then K [.p x] else none
    | .c v => K [v]
    | _ => none
  else none
/-- The plain cells of a plain value of type t. -/
def wPCells (E : Env) (t : TypeId) (x : PV) (K : List PV → Option R) : Option R :=
  bif isStruct (E.ty t) then bif x.isAgg (E.sz t) then K ((List.range (E.sz t)).map fun j => pcell x j) else none
  else bif isScalar (E.ty t) && x.isOne then K [x] else none
/-- A plain value of type t, whole. -/
def wElem (E : Env) (t : TypeId) (x : PV) (K : PV → Option R) : Option R :=
  bif isStruct (E.ty t) then bif x.isAgg (E.sz t) then K x else none
  else bif isScalar (E.ty t) && x.isOne then K x else none

def splice {α : Type} (cs : List α) (off : Nat) (xs : List α) : List α := cs.take off ++ xs ++ cs.drop (off + xs.length)
/-- What is read of an element of c cells. -/
def readP (E : Env) (t : TypeId) (c : Nat) (e : PV) (off : Nat) (K : GV → Option R) : Option R :=
  bif isStruct (E.ty t) then
    bif Nat.ble (off + E.sz t) c then K (.pv (.agg ((List.range (E.sz t)).map fun j => pcell e (off + j)))) else none
  else bif isScalar (E.ty t) && Nat.blt off c then K (.pv (pcell e off)) else none

def fieldOff (E : Env) (s : TypeId) (f : Nat) (K : Nat → TypeId → Option R) : Option R :=
  match E.ty s with
  | .struct fs => match fs[f]? with
    | some x => bif Nat.beq (E.sz x.2) 0 then none else K x.1 x.2
    | none => none
  | _ => none

def cmpI (op : BinOp) (a b : Int) : Option Bool :=
  match op with
  | .eql => some (decide (a = b))
  | .neq => some (!decide (a = b))
  | .lss => some (decide (a < b))
  | .leq => some (decide (a ≤ b))
  | .gtr => some (decide (a > b))
  | .geq => some (decide (a ≥ b))
  | _ => none
def arI (op : BinOp) (k : IntKind) (a b : Int) : Option Int :=
  match op with
  | .add => some (k.wrap (a + b))
  | .sub => some (k.wrap (a - b))
  | .mul => some (k.wrap (a * b))
  | .and => some (k.wrap (BitVec.ofInt k.bits a &&& BitVec.ofInt k.bits b).toNat)
  | .or => some (k.wrap (BitVec.ofInt k.bits a ||| BitVec.ofInt k.bits b).toNat)
  | .xor => some (k.wrap (BitVec.ofInt k.bits a ^^^ BitVec.ofInt k.bits b).toNat)
  | _ => none
def cmpS (op : BinOp) (a b : List UInt8) : Option Bool :=
  match op with
  | .eql => some (decide (a = b))
  | .neq => some (!decide (a = b))
  | .lss => some (Op.bytesLess a b)
  | .leq => some (Op.bytesLess a b || decide (a = b))
  | .gtr => some (!(Op.bytesLess a b || decide (a = b)))
  | .geq => some (!Op.bytesLess a b)
  | _ => none
def wBool? (b : Option Bool) (K : GV → Option R) : Option R := match b with | some b => K (.pv (.bool b)) | none => none
/-- Are two plain values of cells of these types the same? -/
def wEq (E : Env) : List (Nat × TypeId) → PV → PV → (Bool → Option R) → Option R
  | [], _, _, K => K true
  | f :: fs, x, y, K => match E.ty f.2 with
    | .str => wStr (.pv (pcell x f.1)) fun a => wStr (.pv (pcell y f.1)) fun b => wEq E fs x y fun z => K (decide (a = b) && z)
    | .int k => wInt k (.pv (pcell x f.1)) fun a => wInt k (.pv (pcell y f.1)) fun b => wEq E fs x y fun z => K (decide (a = b) && z)
    | .bool => wBool (.pv (pcell x f.1)) fun a => wBool (.pv (pcell y f.1)) fun b => wEq E fs x y fun z => K ((a == b) && z)
    | _ => none
def nilP : GV → Option Bool
  | .c (.p .nilp) => some true
  | .c (.ptr _ _) => some false
  | .c (.ptrE _ _ _) => some false
  | .c (.iptr _ _ _ _) => some false
  | _ => none
def isIf : PV → Bool
  | .nilif => true
  | .someif => true
  | _ => false
def isNif : PV → Bool
  | .nilif => true
  | _ => false
def isConst : Operand → Bool
  | .const _ => true
  | _ => false
def wNil (op : BinOp) (x y : Option Bool) (K : GV → Option R) : Option R :=
  match x, y with
  | some a, some b => bif a || b then
      match op with
      | .eql => K (.pv (.bool (a && b)))
      | .neq => K (.pv (.bool (!(a && b))))
      | _ => none
    else none
  | _, _ => none

def evBin (E : Env) (st : St) (op : BinOp) (t : TypeId) (x y : Operand) (K : GV → Option R) : Option R :=
  match E.ty t with
  | .int k => wInt k (st.ev x) fun a => wInt k (st.ev y) fun b =>
    match op with
    | .quo => bif decide (b = 0) then none else K (.pv (.int k (k.wrap (a.tdiv b))))
    | .rem => bif decide (b = 0) then none else K (.pv (.int k (a.tmod b)))
    | .add | .sub | .mul | .and | .or | .xor => match arI op k a b with
      | some r => K (.pv (.int k r))
      | none => none
    | _ => wBool? (cmpI op a b) K
  | .str => wStr (st.ev x) fun a => wStr (st.ev y) fun b =>
    match op with
    | .add => bif decide (a.length + b.length ≤ LIM) then K (.pv (.str (a ++ b))) else none
    | _ => wBool? (cmpS op a b) K
  | .bool => wBool (st.ev x) fun a => wBool (st.ev y) fun b =>
    match op with
    | .eql => K (.pv (.bool (a == b)))
    | .neq => K (.pv (.bool (!(a == b))))
    | _ => none
  | .struct fs => wP (st.ev x) fun a => wP (st.ev y) fun b => bif fs.all (fun f => isScalar (E.ty f.2)) && (a.isAgg (E.sz t) && b.isAgg (E.sz t)) then
      match op with
      | .eql => wEq E fs a b fun z => K (.pv (.bool z))
      | .neq => wEq E fs a b fun z => K (.pv (.bool (!z)))
      | _ => none
    else none
  | .ptr _ => wNil op (nilP (st.ev x)) (nilP (st.ev y)) K
  | .iface => bif isConst x || isConst y then wP (st.ev x) fun a => wP (st.ev y) fun b => bif isIf a && (isIf b && (isNif b || isNif a)) then
      match op with
      | .eql => K (.pv (.bool (isNif a && isNif b)))
      | .neq => K (.pv (.bool (!(isNif a && isNif b))))
      | _ => none
    else none
    else none
  | _ => none

def wNew (E : Env) (d : Nat) (o : Ob) (st : St) (K : St → Option R) : Option R := bif okNew E st.h o then K (newOb d o st) else none
/-- The row r is another one now: whatever pointed to it does so no more. -/
def moveRow (r : Nat) (o : Ob) (st : St) : St := newOb r o (st.strike r)

/-- What is read of an object's cell: an owned tree is not to be had twice. -/
def CV.seen : CV → CV
  | .own v => .p v.seen
  | v => v
def loadC (E : Env) (t : TypeId) (cs : List CV) (off : Nat) (K : GV → Option R) : Option R :=
  bif isStruct (E.ty t) then bif Nat.ble (off + E.sz t) cs.length then K (mkAgg (((cs.drop off).take (E.sz t)).map CV.seen)) else none
  else bif isScalar (E.ty t) then match cs[off]? with
    | some (.own v) => bif isOwned v then none else K (.pv v)
    | some v => K (.c v)
    | none => none
  else none
def evLoad (E : Env) (st : St) (t : TypeId) (a : GV) (K : GV → Option R) : Option R :=
  match a with
  | .c (.ptr r off) => match look st.h r with
    | some (.box cs) => loadC E t cs off K
    | _ => none
  | .c (.ptrE r i off) => match look st.h r with
    | some (.row e es) => readP E t (E.sz e) (pat es i) off K
    | some (.deep e es ho) => loadC E t (delem (E.sz e) es ho i.toNat) off K
    | _ => none
  | .c (.iptr c es i off) => readP E t c (pat es i) off K
  | _ => none

def evStore (E : Env) (st : St) (t : TypeId) (a : GV) (x : Operand) (K : St → Option R) : Option R :=
  match a with
  | .c (.ptr r off) => match look st.h r with
    | some (.box cs) => wCells E t (st.evT E t x) fun xs => bif Nat.ble (off + xs.length) cs.length then K (setOb r (.box (splice cs off xs)) st) else none
    | _ => none
  | .c (.ptrE r i off) => wPure E st t x fun v st => match look st.h r with
    | some (.row e es) =>
      bif isStruct (E.ty t) && (Nat.beq off 0 && Nat.beq (E.sz t) (E.sz e)) then wElem E t v fun v => K (setOb r (.row e (es.set i.toNat v)) st)
      else bif isStruct (E.ty e) then wPCells E t v fun xs => bif Nat.ble (off + xs.length) (E.sz e) && (pat es i).isAgg (E.sz e) then
        K (setOb r (.row e (es.set i.toNat (.agg (splice (pat es i).cells off xs)))) st) else none
      else bif isScalar (E.ty e) && (isScalar (E.ty t) && (Nat.beq off 0 && v.isOne)) then K (setOb r (.row e (es.set i.toNat v)) st) else none
    | _ => none
  | _ => none

def wBuild (E : Env) (st : St) (fs : List (Nat × TypeId)) : List (Nat × Operand) → List CV → (List CV → Option R) → Option R
  | [], cs, K => K cs
  | x :: l, cs, K => match fs[x.1]? with
    | some f => wCells E f.2 (st.evT E f.2 x.2) fun xs => wBuild E st fs l (splice cs f.1 xs) K
    | none => none
def wParts (E : Env) (e : TypeId) : St → List (Nat × Operand) → Nat → List PV → (List PV → St → Option R) → Option R
  | st, [], n, acc, K => bif Nat.beq n 0 then K acc.reverse st else none
  | st, x :: l, n, acc, K => bif Nat.beq x.1 acc.length then
      match n with
      | 0 => none
      | n + 1 => wPure E st e x.2 fun v st => wElem E e v fun v => wParts E e st l n (v :: acc) K
    else none

def runesOf (s : List UInt8) : List PV := (Conv.runesFrom ⟨s.toArray⟩ s.length 0 #[]).toList.map fun v => match v with | .int _ n => .int .i32 n | _ => .any
def ofRunes (es : List PV) : List UInt8 := es.flatMap fun v => (Utf8.encode (intOf v)).data.toList
def ofBytes (es : List PV) : List UInt8 := es.map fun v => UInt8.ofNat (intOf v).toNat

/-- The elements of a slice. -/
def wSl (E : Env) (c : Nat) (st : St) (v : GV) (K : List PV → Option R) : Option R :=
  match v with
  | .c (.p x) => bif isSl c x then K (slOf x) else none
  | .c (.nils _) => K []
  | .c (.orow r) => match look st.h r with
    | some (.row e es) => bif Nat.beq (E.sz e) c then K es else none
    | _ => none
  | .c (.osub r lo hi) => match look st.h r with
    | some (.row e es) => bif Nat.beq (E.sz e) c then K (sub es lo hi) else none
    | _ => none
  | _ => none

def evConv (E : Env) (d : Nat) (st : St) (s t : TypeId) (x : Operand) (K : GV → St → Option R) : Option R :=
  match E.ty s, E.ty t with
  | .int ks, .int k => wInt ks (st.ev x) fun n => K (.pv (.int k (k.wrap n))) st
  | .str, .str => wStr (st.ev x) fun a => K (.pv (.str a)) st
  | .int ks, .str => wInt ks (st.ev x) fun n => K (.pv (.str (Utf8.encode n).data.toList)) st
  | .str, .slice e => match E.ty e with
    | .int .i32 => wStr (st.ev x) fun a => bif decide (a.length ≤ LIM) then wNew E d (.row e (runesOf a)) (st.strike d) fun st => K (.c (.orow d)) st else none
    | _ => none
  | .slice e, .str => match E.ty e with
    | .int .i32 => wSl E 1 st (st.ev x) fun es => bif es.all (isInt .i32) then K (.pv (.str (ofRunes es))) st else none
    | .int .u8 => wSl E 1 st (st.ev x) fun es => bif es.all (isInt .u8) then K (.pv (.str (ofBytes es))) st else none
    | _ => none
  | _, _ => none

def wOptInt (st : St) (x : Option Operand) (z : Int) (K : Int → Option R) : Option R :=
  match x with
  | none => K z
  | some x => wInt .i64 (st.ev x) K
def inR (l h n : Int) : Bool := decide (0 ≤ l) && (decide (l ≤ h) && decide (h ≤ n))
def evSlice (E : Env) (st : St) (t : TypeId) (x : Operand) (lo hi : Option Operand) (K : GV → Option R) : Option R :=
  match E.ty t with
  | .str => wStr (st.ev x) fun s => wOptInt st lo 0 fun l => wOptInt st hi s.length fun h =>
      bif inR l h s.length then K (.pv (.str (sub s l h))) else none
  | .slice e => match st.ev x with
    | .c (.p v) => bif isSl (E.sz e) v then wOptInt st lo 0 fun l => wOptInt st hi (slOf v).length fun h =>
        bif inR l h (slOf v).length then K (.pv (.sl (E.sz e) (sub (slOf v) l h))) else none
      else none
    | .c (.orow r) => match st.rlen r with
      | some x => bif Nat.beq (E.sz x.1) (E.sz e) then wOptInt st lo 0 fun l => wOptInt st hi x.2 fun h =>
          bif inR l h x.2 then K (.c (.osub r l h)) else none
        else none
      | _ => none
    | _ => none
  | _ => none

def evAddr (E : Env) (st : St) (s : TypeId) (f : Nat) (v : GV) (K : GV → Option R) : Option R :=
  fieldOff E s f fun fo _ => match v with
    | .c (.ptr r off) => match look st.h r with
      | some (.box _) => K (.c (.ptr r (off + fo)))
      | _ => none
    | .c (.ptrE r i off) => K (.c (.ptrE r i (off + fo)))
    | .c (.iptr c es i off) => K (.c (.iptr c es i (off + fo)))
    | _ => none
def evField (E : Env) (s : TypeId) (f : Nat) (v : GV) (K : GV → Option R) : Option R :=
  fieldOff E s f fun fo ft => match v with
    | .c (.p x) => bif x.isAgg (E.sz s) then
        bif isStruct (E.ty ft) then K (.pv (.agg ((List.range (E.sz ft)).map fun j => pcell x (fo + j)))) else bif isScalar (E.ty ft) then K (.pv (pcell x fo)) else none
      else none
    | .agg cs => bif isStruct (E.ty ft) then bif Nat.ble (fo + E.sz ft) cs.length then K (mkAgg ((cs.drop fo).take (E.sz ft))) else none
      else bif isScalar (E.ty ft) then match cs[fo]? with
        | some v => K (.c v)
        | none => none
      else none
    | _ => none
def inI (i n : Int) : Bool := decide (0 ≤ i) && decide (i < n)
def evIndexAddr (E : Env) (st : St) (t : TypeId) (x i : Operand) (K : GV → Option R) : Option R :=
  match E.ty t with
  | .slice e => wInt .i64 (st.ev i) fun i => match st.ev x with
    | .c (.p v) => bif isSl (E.sz e) v && inI i (slOf v).length then K (.c (.iptr (E.sz e) (slOf v) i 0)) else none
    | .c (.orow r) => match st.rlen r with
      | some x => bif Nat.beq (E.sz x.1) (E.sz e) && inI i x.2 then K (.c (.ptrE r i 0)) else none
      | _ => none
    | .c (.osub r lo hi) => match st.rlen r with
      | some x => bif Nat.beq (E.sz x.1) (E.sz e) && inI i (hi - lo) then K (.c (.ptrE r (lo + i) 0)) else none
      | _ => none
    | _ => none
  | _ => none
def evIndex (E : Env) (st : St) (t : TypeId) (x i : Operand) (K : GV → Option R) : Option R :=
  match E.ty t with
  | .str => wStr (st.ev x) fun s => wInt .i64 (st.ev i) fun i => bif inI i s.length then K (.pv (.int .u8 ((s.getD i.toNat 0).toNat : Int))) else none
  | _ => none

def evLen (E : Env) (st : St) (t : TypeId) (x : Operand) (K : GV → Option R) : Option R :=
  match E.ty t with
  | .str => wStr (st.ev x) fun s => K (.pv (.int .i64 (s.length : Int)))
  | .slice e => match st.evT E t x with
    | .c (.osub _ lo hi) => K (.pv (.int .i64 (hi - lo)))
    | .c (.orow r) => match st.rlen r with
      | some x => K (.pv (.int .i64 (x.2 : Int)))
      | none => none
    | v => wSl E (E.sz e) st v fun es => K (.pv (.int .i64 (es.length : Int)))
  | .mapt _ _ => match st.ev x with
    | .c (.omap r) => match look st.h r with
      | some (.tab kvs _) => K (.pv (.int .i64 (kvs.length : Int)))
      | _ => none
    | .c (.p v) => bif isMp v then K (.pv (.int .i64 ((mapOf v).length : Int))) else none
    | _ => none
  | _ => none
def evAppend (E : Env) (d : Nat) (st : St) (t : TypeId) (s x : Operand) (xt : TypeId) (K : GV → St → Option R) : Option R :=
  match E.ty t, Nat.beq t xt with
  | .slice e, true => wSl E (E.sz e) st (st.evT E xt x) fun xs => match st.evT E t s with
    | .c (.orow r) => match look st.h r with
      | some (.row e' es) => bif Nat.beq e' e && decide (es.length + xs.length ≤ LIM) then K (.c (.orow r)) (moveRow r (.row e (es ++ xs)) st) else none
      | _ => none
    | .c (.nils _) => bif decide (xs.length ≤ LIM) then wNew E d (.row e xs) (st.strike d) fun st => K (.c (.orow d)) st else none
    | _ => none
  | _, _ => none

/-! Cells that are opened; rows whose cells are owned. -/
def openLoad (E : Env) (d : Nat) (st : St) (t : TypeId) (a : GV) : Option (CV × St) :=
  match a with
  | .c (.ptr r off) => match look st.h r with
    | some (.box cs) => match cs[off]? with
      | some (.own v) => bif isOwned v && (isScalar (E.ty t) && !Nat.beq r d) then some (openRef d v, st.openAt r d v (.box ((cs.map (CV.strike d)).set off (openRef d v)))) else none
      | _ => none
    | _ => none
  | .c (.ptrE r i off) => match look st.h r with
    | some (.deep _ es0 ho) => match dcell es0 ho i.toNat off with
      | .own v0 => bif isOwned v0 then match look (st.foldAt E r 0).h r with
          | some (.deep e es none) => bif isOwned (pcell (es.getD i.toNat .any) off) && (isScalar (E.ty t) && (!Nat.beq r d && (Nat.blt i.toNat es.length && Nat.blt off (E.sz e)))) then
              some (openRef d (pcell (es.getD i.toNat .any) off), (st.foldAt E r 0).openAt r d (pcell (es.getD i.toNat .any) off) (.deep e es (some (i.toNat, off, openRef d (pcell (es.getD i.toNat .any) off)))))
            else none
          | _ => none
        else none
      | _ => none
    | _ => none
  | _ => none
def isRef : CV → Bool
  | .orow _ => true
  | .ptr _ o => Nat.beq o 0
  | _ => false
def refOf : GV → Option CV
  | .c v => bif isRef v then some v else none
  | _ => none
def St.toDeep (E : Env) (r : Nat) (st : St) : St := match look st.h r with
  | some (.row e es) => bif E.dp e && !Nat.beq e E.tb then setOb r (.deep e es none) st else st
  | _ => st
def isDeep : Option Ob → Bool
  | some (.deep _ _ _) => true
  | _ => false
/-- A store into a row whose cells may be owned. -/
def deepStore (E : Env) (st : St) (r : Nat) (i : Int) (off : Nat) (t : TypeId) (x : Operand) (K : St → Option R) : Option R :=
  match refOf ((st.foldAt E r 0).evT E t x) with
  | some cv => match look (st.foldAt E r 0).h r with
    | some (.deep e es none) => bif !isIn cv.keys r && (isScalar (E.ty t) && (Nat.blt i.toNat es.length && Nat.blt off (E.sz e))) then K (setOb r (.deep e es (some (i.toNat, off, cv))) (st.foldAt E r 0)) else none
    | _ => none
  | none => none
def evStore2 (E : Env) (st : St) (t : TypeId) (a : GV) (x : Operand) (K : St → Option R) : Option R :=
  match a with
  | .c (.ptrE r i off) => bif isDeep (look st.h r) then deepStore E st r i off t x K else match refOf (st.evT E t x) with
    | some _ => bif isDeep (look (st.toDeep E r).h r) then deepStore E (st.toDeep E r) r i off t x K else evStore E st t a x K
    | none => evStore E (st.foldAll E (st.evT E t x).rows) t a x K
  | _ => evStore E st t a x K

/-! Maps. -/
def kfst (l : List (PV × PV)) (i : Nat) : PV := (l.getD i (.any, .any)).1
def kfind (k : PV) : List (PV × PV) → Nat → Option (Nat × PV)
  | [], _ => none
  | x :: l, i => bif sameKey k x.1 then some (i, x.2) else kfind k l (i + 1)
def keyFits : TK → PV → Bool
  | .int k, .int l _ => decide (l = k)
  | .str, .str _ => true
  | .bool, .bool _ => true
  | _, _ => false
def mapK : TK → TypeId
  | .mapt k _ => k
  | _ => 0
/-- Is this a key of such a map, as all keys of its entries are? -/
def keysFit (E : Env) (t : TypeId) (key : PV) (kvs : List (PV × PV)) : Bool := keyFits (E.ty (mapK (E.ty t))) key && kvs.all fun x => keyFits (E.ty (mapK (E.ty t))) x.1
/-- What a cell that is not there reads as. -/
def zeroC (E : Env) (e : TypeId) : CV := (zeroOf E 6 e).headD (.p .any)
def isMapT : TK → Bool
  | .mapt _ _ => true
  | _ => false
def mapE : TK → TypeId
  | .mapt _ e => e
  | _ => 0
def mapOb (h : List (Nat × Ob)) : GV → Option (Nat × List (PV × PV) × Option (PV × CV))
  | .c (.omap r) => match look h r with
    | some (.tab kvs ho) => some (r, kvs, ho)
    | _ => none
  | _ => none
def wOk (ok : Bool) (v : CV) (found : Bool) (K : GV → Option R) : Option R := bif ok then K (.tup [v, .p (.bool found)]) else K (.c v)
/-- What a map reads as at a key. -/
def evLookup (E : Env) (d : Nat) (st : St) (t : TypeId) (m k : Operand) (ok : Bool) (K : GV → St → Option R) : Option R :=
  bif isMapT (E.ty t) && isScalar (E.ty (mapE (E.ty t))) then
    wP (st.ev k) fun key => bif isKey key then match st.ev m with
      | .c (.p v) => bif isMp v && keysFit E t key (mapOf v) then match (mapOf v).filter (fun z => sameKey key z.1) with
          | [] => wOk ok (zeroC E (mapE (E.ty t))) false fun v => K v st
          | [x] => bif x.2.isOne then wOk ok (.p x.2) true fun v => K v st else none
          | _ => none
        else none
      | mv => match mapOb st.h mv with
        | some y => bif keysFit E t key y.2.1 then match kfind key y.2.1 0 with
          | none => wOk ok (zeroC E (mapE (E.ty t))) false fun v => K v st
          | some x => match mcellAt y.2.2 key x.2 with
            | .own v => bif isOwned v then match look (st.foldAt E y.1 0).h y.1 with
                | some (.tab kvs none) => match kfind key kvs 0 with
                  | some z => bif isOwned z.2 && (keysFit E t key kvs && !Nat.beq y.1 d) then wOk ok (openRef d z.2) true fun v => K v ((st.foldAt E y.1 0).openAt y.1 d z.2 (.tab kvs (some (key, openRef d z.2)))) else none
                  | none => none
                | _ => none
              else bif v.isOne then wOk ok (.p v) true fun v => K v st else none
            | v => wOk ok v true fun v => K v st
          else none
        | none => none
      else none
  else none
where
  mcellAt (ho : Option (PV × CV)) (k v : PV) : CV := match ho with
    | some y => bif sameKey y.1 k then y.2 else .own v
    | none => .own v
/-- Entry i of a map is another one; a new one, if there is no such entry. -/
def kset (kvs : List (PV × PV)) (i : Nat) (k v : PV) : List (PV × PV) := bif Nat.blt i kvs.length then kvs.set i ((kvs.getD i (.any, .any)).1, v) else kvs ++ [(k, v)]
def kpos (k : PV) (kvs : List (PV × PV)) : Nat := match kfind k kvs 0 with
  | some x => x.1
  | none => kvs.length
def evMapSet (E : Env) (st : St) (t : TypeId) (m k x : Operand) (K : St → Option R) : Option R :=
  bif isMapT (E.ty t) && isScalar (E.ty (mapE (E.ty t))) then
    wP (st.ev k) fun key => bif isKey key then match st.ev m with
      | .c (.omap r) => match refOf ((st.foldAt E r 0).evT E (mapE (E.ty t)) x) with
        | some cv => match look (st.foldAt E r 0).h r with
          | some (.tab kvs none) => bif keysFit E t key kvs && !isIn cv.keys r then K (setOb r (.tab (kset kvs (kpos key kvs) key .any) (some (key, cv))) (st.foldAt E r 0)) else none
          | _ => none
        | none => wPure E ((st.foldAt E r 0).foldAll E ((st.foldAt E r 0).evT E (mapE (E.ty t)) x).rows) (mapE (E.ty t)) x fun v st => bif v.isOne then match look st.h r with
          | some (.tab kvs none) => bif keysFit E t key kvs then K (setOb r (.tab (kset kvs (kpos key kvs) key v) none) st) else none
          | _ => none
          else none
      | _ => none
    else none
  else none
def evMapEntry (E : Env) (st : St) (t : TypeId) (m k : Operand) (K : GV → St → Option R) : Option R :=
  bif isMapT (E.ty t) && isScalar (E.ty (mapE (E.ty t))) then
    wP (st.ev k) fun key => bif isKey key then match st.ev m with
      | .c (.omap r) => match look (st.foldAt E r 0).h r, (zeroC E (mapE (E.ty t))).pure? with
        | some (.tab kvs none), some z => bif keysFit E t key kvs && z.isOne then match kfind key kvs 0 with
            | some x => bif isOwned x.2 then none else K (.tup [.p .any, .p (.int .i64 ((kpos key kvs : Nat) : Int))]) (setOb r (.tab (kset kvs (kpos key kvs) key x.2) none) (st.foldAt E r 0))
            | none => K (.tup [.p .any, .p (.int .i64 ((kpos key kvs : Nat) : Int))]) (setOb r (.tab (kset kvs (kpos key kvs) key z) none) (st.foldAt E r 0))
          else none
        | _, _ => none
      | _ => none
    else none
  else none
def evEntryStore (E : Env) (st : St) (t : TypeId) (m s x : Operand) (K : St → Option R) : Option R :=
  bif isMapT (E.ty t) && isScalar (E.ty (mapE (E.ty t))) then
    wInt .i64 (st.ev s) fun n => match st.ev m with
      | .c (.omap r) => match refOf ((st.foldAt E r 0).evT E (mapE (E.ty t)) x) with
        | some _ => none
        | none => wPure E ((st.foldAt E r 0).foldAll E ((st.foldAt E r 0).evT E (mapE (E.ty t)) x).rows) (mapE (E.ty t)) x fun v st => bif v.isOne then match look st.h r with
          | some (.tab kvs none) => bif inI n kvs.length && (keysFit E t (kfst kvs n.toNat) kvs && Nat.beq (kpos (kfst kvs n.toNat) kvs) n.toNat) then K (setOb r (.tab (kset kvs (kpos (kfst kvs n.toNat) kvs) (kfst kvs n.toNat) v) none) st) else none
          | _ => none
          else none
      | _ => none
  else none
/-- What goes over a map that is only read. -/
def evRange (d : Nat) (st : St) (m : Operand) (K : GV → St → Option R) : Option R :=
  wP (st.ev m) fun v => bif isMp v then K (.c (.ptr d 0)) (newOb d (.it (mapOf v) none) (st.strike d)) else none
/-- The next entry, where at most one is left. -/
def evNext (st : St) (x : Operand) (K : GV → St → Option R) : Option R :=
  match st.ev x with
  | .c (.ptr r _) => match look st.h r with
    | some (.it [] _) => K (.tup [.p (.bool false)]) st
    | some (.it [y] _) => K (.tup [.p (.bool true), .p y.1, .p y.2]) (setOb r (.it [] (some y)) st)
    | _ => none
  | _ => none
def evEntry (st : St) (x : Operand) (K : GV → Option R) : Option R :=
  match st.ev x with
  | .c (.ptr r _) => match look st.h r with
    | some (.it _ (some y)) => K (.tup [.p y.1, .p y.2])
    | _ => none
  | _ => none
/-- append, to a row whose cells may be owned, too. -/
def evAppend2 (E : Env) (d : Nat) (st : St) (t : TypeId) (s x : Operand) (xt : TypeId) (K : GV → St → Option R) : Option R :=
  match st.evT E t s with
  | .c (.orow r) => bif isDeep (look st.h r) then none
    else evAppend E d st t s x xt K
  | _ => evAppend E d st t s x xt K
/-- A slice of zero values. -/
def zeroP (E : Env) (e : TypeId) : Option PV := match pures (zeroOf E 6 e) with
  | some ps => bif isStruct (E.ty e) then some (.agg ps) else bif isScalar (E.ty e) then (match ps with | [p] => bif p.isOne then some p else none | _ => none) else none
  | none => none
def evMakeSlice (E : Env) (d : Nat) (st : St) (t : TypeId) (n c : Operand) (K : GV → St → Option R) : Option R :=
  match E.ty t with
  | .slice e => wInt .i64 (st.ev n) fun n => wInt .i64 (st.ev c) fun c => match zeroP E e with
    | some z => bif decide (n = c) && (decide (0 ≤ n) && (decide (n ≤ 1048576) && (Nat.ble (n.toNat * E.sz e) 16777216 && !Nat.beq e E.tb))) then wNew E d (.row e (List.replicate n.toNat z)) (st.strike d) fun st => K (.c (.orow d)) st else none
    | none => none
  | _ => none

end ops

end Go.Dip
end

/- An ideal semantics of the model's code, part 2: operations, regions, code. -/
section
namespace Go.Dip

/-! Calls that may change objects. -/
def Ob.keys : Ob → List Nat
  | .box cs => cs.flatMap CV.keys
  | .deep _ _ ho => match ho with | some x => x.2.2.keys | none => []
  | .tab _ ho => match ho with | some x => x.2.keys | none => []
  | _ => []
def reach (h : List (Nat × Ob)) : Nat → List Nat → List Nat → List Nat
  | 0, _, seen => seen.reverse
  | _, [], seen => seen.reverse
  | n + 1, r :: l, seen => bif seen.any (Nat.beq r ·) then reach h n l seen else match look h r with
    | some o => reach h n (o.keys ++ l) (r :: seen)
    | none => reach h n l seen
def CV.ren (f : Nat → Nat) : CV → CV
  | .orow r => .orow (f r)
  | .osub r a b => .osub (f r) a b
  | .ptr r o => .ptr (f r) o
  | .ptrE r i o => .ptrE (f r) i o
  | .fn g rs => .fn g (rs.map f)
  | .omap r => .omap (f r)
  | v => v
def pos (ks : List Nat) (r : Nat) : Nat := 1000 + ks.findIdx (Nat.beq r ·)
/-- A key that a callee was handed. -/
def oldKey (ks : List Nat) (q : Nat) : Bool := Nat.ble 1000 q && Nat.blt q (1000 + ks.length)
def back (d : Nat) (ks : List Nat) (q : Nat) : Nat := bif oldKey ks q then ks.getD (q - 1000) 0 else 2000 + q * 1000 + d
def keysIn (ks l : List Nat) : Bool := l.all (isIn ks)
def hasOb (h : List (Nat × Ob)) (ks : List Nat) (r : Nat) : Bool := match look h r with
  | some o => keysIn ks o.keys
  | none => false
def rowAt (h : List (Nat × Ob)) (r : Nat) : Bool := match look h r with
  | some (.row _ _) => true
  | some (.deep _ _ _) => true
  | _ => false
def handed (h : List (Nat × Ob)) (ks : List Nat) : List Nat → List (Nat × Ob)
  | [] => []
  | r :: l => match look h r with
    | some o => (pos ks r, o.map (CV.ren (pos ks))) :: handed h ks l
    | none => handed h ks l

section
variable {R : Type}
def wArgs (E : Env) (st : St) : List (TypeId × Operand) → List GV
  | [] => []
  | x :: l => st.evT E x.1 x.2 :: wArgs E st l
def callHeap (E : Env) (d : Nat) (st : St) (args : List GV) (F : List GV → List (Nat × Ob) → (GV → List (Nat × Ob) → Option R) → Option R) (K : GV → St → Option R) : Option R :=
  let ks := reach st.h 100 (args.flatMap GV.keys) []
  bif Nat.blt ks.length 1000 && (keysIn ks (args.flatMap GV.keys) && ks.all (hasOb st.h ks)) then
    F (args.map (GV.map (CV.ren (pos ks)))) (handed st.h ks ks) fun v H =>
      let f := back d ks
      let hk := H.map fun x => f x.1
      let kh := H.map fun x => x.1
      bif distinct hk && (keysIn kh v.keys && (H.all (fun x => keysIn kh x.2.keys) && H.all fun x => oldKey ks x.1 || !isIn ks (f x.1))) then
        let st1 := strikeAll ((H.filter fun x => !oldKey ks x.1).map (fun x => f x.1) ++ ks.filter (rowAt st.h)) { st with h := dropAll ks st.h }
        let h := (H.map fun x => (f x.1, x.2.map (CV.ren f))) ++ st1.h
        bif okHeap E h then K (v.map (CV.ren f)) { st1 with h := h } else none
      else none
  else none

def evMinMax (st : St) (mx : Bool) (t : TK) (xs : List Operand) (K : GV → Option R) : Option R :=
  match t, xs with
  | .int k, [x, y] => wInt k (st.ev x) fun a => wInt k (st.ev y) fun b => K (.pv (.int k (bif mx then max a b else min a b)))
  | .int k, [x, y, z] => wInt k (st.ev x) fun a => wInt k (st.ev y) fun b => wInt k (st.ev z) fun c => K (.pv (.int k (bif mx then max (max a b) c else min (min a b) c)))
  | _, _ => none
def allPtr : List GV → Option (List Nat)
  | [] => some []
  | .c (.ptr r 0) :: l => match allPtr l with
    | some rs => some (r :: rs)
    | none => none
  | _ :: _ => none
def ptrs (rs : List Nat) : List GV := rs.map fun r => .c (.ptr r 0)

/-- Values that lead to no block. -/
def flat1 : PV → Bool
  | .bool _ => true
  | .int _ _ => true
  | .str _ => true
  | .fn _ => true
  | .nilp => true
  | .nilif => true
  | .someif => true
  | _ => false
def flatP (v : PV) : Bool := v.cells.all flat1
def flatC : CV → Bool
  | .p v => flatP v
  | _ => false
def flatG : GV → Bool
  | .c v => flatC v
  | .agg cs => cs.all flatC
  | .tup cs => cs.all flatC
/-- An operation that changes no object and makes none. -/
def evCalm (E : Env) (ρ : FuncId → Option (Callee R)) (o : Oper) (st : St) (K : GV → Option R) : Option R :=
  match o.op with
  | .move x => K (st.evT E o.type x)
  | .assign x => match st.evT E o.type x with
    | .c (.nils _) => none
    | v => K v
  | .pick c a b => wBool (st.ev c) fun z => bif z then K (st.evT E o.type a) else K (st.evT E o.type b)
  | .build t parts => match E.ty t with
    | .struct fs => wBuild E st fs parts.toList (zeroOf E 6 t) fun cs => K (mkAgg cs)
    | _ => none
  | .load t a => evLoad E st t (st.ev a) K
  | .nilCheck x => match st.ev x with
    | .c (.ptr r o) => K (.c (.ptr r o))
    | .c (.ptrE r i o) => K (.c (.ptrE r i o))
    | .c (.iptr c es i o) => K (.c (.iptr c es i o))
    | _ => none
  | .binOp op t x y _ => evBin E st op t x y K
  | .unOp op t x => match op, E.ty t with
    | .not, _ => wBool (st.ev x) fun b => K (.pv (.bool (!b)))
    | .neg, .int k => wInt k (st.ev x) fun a => K (.pv (.int k (k.wrap (0 - a))))
    | _, _ => none
  | .convert s t x => match E.ty t with
    | .slice _ => none
    | _ => evConv E 0 st s t x fun v _ => K v
  | .makeFunc (.func f) first captured => bif bnd f then none else bif Nat.beq first.size 0 then match allPtr (captured.toList.map st.ev) with
      | some rs => K (.c (.fn f rs))
      | none => none
    else bif Nat.beq captured.size 0 then match allPtr (first.toList.map st.ev) with
      | some rs => K (.c (.fn (Nat.add f 1000000) rs))
      | none => none
    else none
  | .slice t x lo hi none => evSlice E st t x lo hi K
  | .fieldAddr s x f => evAddr E st s f (st.ev x) K
  | .field s x f => evField E s f (st.ev x) K
  | .indexAddr t x i => evIndexAddr E st t x i K
  | .index t x i => evIndex E st t x i K
  | .extract x i => match st.ev x with
    | .tup vs => match vs[i]? with
      | some v => K (.c v)
      | none => none
    | _ => none
  | .call { callee := .builtin .len, args, argTypes } => bif Nat.beq argTypes.size 1 && Nat.beq args.size 1 then evLen E st (argTypes.getD 0 0) (args.getD 0 (.const .nilIface)) K else none
  | .call { callee := .builtin .max, args, argTypes } => evMinMax st true (E.ty (argTypes.getD 0 0)) args.toList K
  | .call { callee := .builtin .min, args, argTypes } => evMinMax st false (E.ty (argTypes.getD 0 0)) args.toList K
  | .call { callee := .value f, args, argTypes } => match st.ev f with
    | .c (.fn g []) => bif bnd g then none else match ρ g with
      | some (.pure F) => bif Nat.beq argTypes.size args.size then match GVs.pures (wArgs E st (argTypes.toList.zip args.toList)) with
          | some vs => F vs K
          | none => none
        else none
      | _ => none
    | _ => none
  | _ => none
where
  GVs.pures : List GV → Option (List PV)
    | [] => some []
    | v :: l => match v.pure?, GVs.pures l with
      | some x, some xs => some (x :: xs)
      | _, _ => none

/-- An operation. -/
def evOp (E : Env) (ρ : FuncId → Option (Callee R)) (o : Oper) (st : St) (K : GV → St → Option R) : Option R :=
  let d := o.dst.getD 0
  match o.op with
  | .assign x => match st.evT E o.type x with
    | .c (.nils _) => match E.ty o.type with
      | .slice e => wNew E d (.row e []) (st.strike d) fun st => K (.c (.orow d)) st
      | _ => none
    | v => K v st
  | .alloc t => match E.ty t with
    | .bld => wNew E d (.bld []) (st.strike d) fun st => K (.c (.ptr d 0)) st
    | k => bif !Nat.beq t E.tb && (isStruct k || isScalar k) then K (.c (.ptr d 0)) (newOb d (.box (zeroOf E 6 t)) (st.strike d)) else none
  | .box t x => let st' := st.strike d
    bif !Nat.beq t E.tb then wCells E t (st'.evT E t x) fun cs => K (.c (.ptr d 0)) (newOb d (.box cs) st') else none
  | .buildSlice t len parts => match E.ty t with
    | .slice e => bif Nat.ble (len * E.sz e) 16777216 then wParts E e (st.foldAll E (parts.toList.flatMap fun x => (st.evT E e x.2).rows)) parts.toList len [] fun es st => wNew E d (.row e es) (st.strike d) fun st => K (.c (.orow d)) st else none
    | _ => none
  | .load t a => match openLoad E d st t (st.ev a) with
    | some x => K (.c x.1) x.2
    | none => evLoad E st t (st.ev a) fun v => K v st
  | .store t a x => evStore2 E st t (st.ev a) x fun st' => K .any st'
  | .lookup t m k ok => evLookup E d st t m k ok K
  | .mapUpdate t m k x => evMapSet E st t m k x fun st' => K .any st'
  | .insert t m k x => evMapSet E st t m k x fun st' => K .any st'
  | .mapEntry t m k => evMapEntry E st t m k K
  | .entryStore t m s x => evEntryStore E st t m s x fun st' => K .any st'
  | .makeMap _ none => K (.c (.omap d)) (newOb d (.tab [] none) (st.strike d))
  | .range t x => bif isMapT (E.ty t) then evRange d st x K else none
  | .next x false => evNext st x K
  | .entry x => evEntry st x fun v => K v st
  | .makeSlice t n c => evMakeSlice E d st t n c K
  | .convert s t x => evConv E d st s t x K
  | .call { callee := .builtin .append, args, argTypes } => bif Nat.beq argTypes.size 2 && Nat.beq args.size 2 then evAppend2 E d st (argTypes.getD 0 0) (args.getD 0 (.const .nilIface)) (args.getD 1 (.const .nilIface)) (argTypes.getD 1 0) K else none
  | .call { callee := .value f, args, argTypes } => bif Nat.beq argTypes.size args.size then match st.ev f with
    | .c (.fn g rs) => bif bnd g && !Nat.beq args.size 0 then none else match ρ (unb g) with
      | some (.pure F) => match rs with
        | [] => wPures E (st.foldAll E ((wArgs E st (argTypes.toList.zip args.toList)).flatMap GV.rows)) (argTypes.toList.zip args.toList) [] fun vs st' => F vs fun v => bif flatG v then K v st else K v st'
        | _ => none
      | some (.heap F) => callHeap E d st (wArgs E st (argTypes.toList.zip args.toList) ++ ptrs rs) F K
      | none => none
    | _ => none
    else none
  | _ => evCalm E ρ o st fun v => K v st

/-- By what a condition says. -/
def splitB (st : St) (x : Operand) (K : Bool → St → Option R) : Option R :=
  wBool (st.ev x) fun b => match x with
    | .tmp t => bif b then K true (st.put (some t) (.pv (.bool true))) else K false (st.put (some t) (.pv (.bool false)))
    | _ => bif b then K true st else K false st

def dstOf (all : List Oper) (j : Nat) : Option Tmp := match all[j]? with | some o => o.dst | none => none
/-- What an operation leaves that is not wanted. -/
def isUndef : GV → Bool
  | .c (.p .gone) => true
  | _ => false
def okDst (n : Nat) : Option Tmp → Bool
  | some d => Nat.blt d n && Nat.blt d 1000
  | none => true
def evOps (E : Env) (n : Nat) (ρ : FuncId → Option (Callee R)) (all : List Oper) : List Oper → St → (St → Option R) → Option R
  | [], st, K => K st
  | o :: l, st, K => bif okDst n o.dst then
      match o.guard with
      | none => evOp E ρ o st fun v st => evOps E n ρ all l (st.put o.dst v) K
      | some g => match dstOf all g.1 with
        | some t => match isUndef (st.get t) with
          | true => evOps E n ρ all l (st.put o.dst (.pv .gone)) K
          | false => splitB st (.tmp t) fun b st => match b == g.2 with
            | true => evOp E ρ o st fun v st => evOps E n ρ all l (st.put o.dst v) K
            | false => evOps E n ρ all l (st.put o.dst (.pv .gone)) K
        | none => none
    else none

end
/-- What an operation changes: keys struck, keys dropped, objects added. -/
structure Delta where
  zs : List Nat
  ds : List Nat
  add : List (Nat × Ob)
def Delta.none : Delta := ⟨[], [], []⟩
def Delta.app (D : Delta) (st : St) : St :=
  let s1 := strikeAll D.zs { st with h := dropAll D.ds st.h }
  { s1 with h := D.add ++ s1.h }
structure Rec where
  dst : Option Nat
  v : GV
  del : Delta
def Rec.upd (c : Rec) (st : St) : St := (c.del.app st).put c.dst c.v

/-- The keys that it changes. -/
def Rec.wr (c : Rec) : List Nat := c.del.zs ++ (c.del.ds ++ c.del.add.map fun x => x.1)
/-- The keys that what it leaves speaks of. -/
def Rec.said (c : Rec) : List Nat := c.v.keys ++ c.del.add.flatMap fun x => x.2.keys

/-! Regions that draw their order: each operation on what it reads alone; pairs that do not wait for one another must not meet. -/
def tmpsOf (l : List Operand) : List Tmp := l.filterMap fun x => match x with
  | .tmp t => some t
  | _ => none
def footT (st : St) : List Tmp → List (Nat × GV)
  | [] => []
  | t :: l => match look st.t t with
    | some v => (t, v) :: footT st l
    | none => footT st l
def footH (h : List (Nat × Ob)) : List Nat → List (Nat × Ob)
  | [] => []
  | r :: l => match look h r with
    | some o => (r, o) :: footH h l
    | none => footH h l
def foot (st : St) (ts : List Tmp) : St :=
  let t := footT st ts
  { t := t, h := footH st.h (reach st.h 100 (t.flatMap fun x => x.2.keys) []) }
/-- Operations that read no object. -/
def isLight : Op → Bool
  | .move _ => true
  | .assign _ => true
  | .pick _ _ _ => true
  | .build _ _ => true
  | .box _ _ => true
  | .alloc _ => true
  | .extract _ _ => true
  | .nilCheck _ => true
  | .binOp _ _ _ _ _ => true
  | .unOp _ _ _ => true
  | .makeFunc _ _ _ => true
  | _ => false
def footO (st : St) (o : Op) (ts : List Tmp) : St := bif isLight o then { t := footT st ts, h := [] } else foot st ts
def dstB (c d : Option Nat) : Bool := match c, d with
  | some i, some j => !Nat.beq i j
  | _, _ => true
def apartB (c d : Rec) : Bool := dstB c.dst d.dst && (c.wr.all (fun z => !isIn d.wr z) && (c.del.zs.all (fun z => !isIn d.said z) && d.del.zs.all fun z => !isIn c.said z))
def freeB (c : Rec) (s : St) : Bool :=
  (match c.dst with
    | some i => (look s.t i).isNone
    | none => true) &&
  (c.wr.all (fun z => (look s.h z).isNone) && c.del.zs.all fun z => s.t.all (fun x => !isIn x.2.keys z) && s.h.all fun x => !isIn x.2.keys z)
def pairOk (c : Rec) (s : St) (d : Rec) (z : St) : Bool := apartB c d && (freeB c z && freeB d s)
def meetOk (p : Nat) (d : Rec) (z : St) : Nat → List (Rec × St) → Bool
  | _, [] => true
  | i, x :: l => (Nat.testBit p i || pairOk x.1 x.2 d z) && meetOk p d z (i + 1) l
def waitsFor (tab : List Nat) : List Edge → Nat
  | [] => 0
  | e :: l => bif Region.binds .any e then (1 <<< e.on) ||| (tab.getD e.on 0 ||| waitsFor tab l) else waitsFor tab l
def edgesOk (k : Nat) (l : List Edge) : Bool := l.all fun e => !Region.binds .any e || Nat.blt e.on k
section
variable {R : Type}
/-- A builder that was handed. -/
def sameBld (h : List (Nat × Ob)) (ks : List Nat) (x : Nat × Ob) : Bool := oldKey ks x.1 && (x.2.isBld && match look h (ks.getD (x.1 - 1000) 0) with
  | some o => o.isBld
  | none => false)
def plain (E : Env) (h : List (Nat × Ob)) (ks : List Nat) (H : List (Nat × Ob)) : Bool := H.all fun x => (!x.2.isBld && !x.2.isByte E) || sameBld h ks x
def wParts0 (E : Env) (e : TypeId) (s : St) : List (Nat × Operand) → Nat → List PV → (List PV → Option R) → Option R
  | [], n, acc, K => bif Nat.beq n 0 then K acc.reverse else none
  | x :: l, n, acc, K => bif Nat.beq x.1 acc.length then
      match n with
      | 0 => none
      | n + 1 => match (s.evT E e x.2).pure? with
        | some v => wElem E e v fun w => wParts0 E e s l n (w :: acc) K
        | none => none
    else none
/-! What a call leaves as it was. -/
def eqL {α : Type} (f : α → α → Bool) : List α → List α → Bool
  | [], [] => true
  | x :: l, y :: m => f x y && eqL f l m
  | _, _ => false
def eqP : Nat → PV → PV → Bool
  | 0, _, _ => false
  | n + 1, a, b => match a, b with
    | .any, .any => true
    | .gone, .gone => true
    | .bool a, .bool b => a == b
    | .int k a, .int l b => decide (k = l) && decide (a = b)
    | .str a, .str b => decide (a = b)
    | .agg a, .agg b => eqL (eqP n) a b
    | .sl c a, .sl d b => Nat.beq c d && eqL (eqP n) a b
    | .fn f, .fn g => Nat.beq f g
    | .nilp, .nilp => true
    | .nilif, .nilif => true
    | .someif, .someif => true
    | .mp a, .mp b => eqL (eqP n) (a.map Prod.fst) (b.map Prod.fst) && eqL (eqP n) (a.map Prod.snd) (b.map Prod.snd)
    | .erow c a, .erow d b => Nat.beq c d && eqL (eqP n) a b
    | .ebox a, .ebox b => eqL (eqP n) a b
    | _, _ => false
def eqC (a b : CV) : Bool := match a, b with
  | .p a, .p b => eqP 40 a b
  | .nils c, .nils d => Nat.beq c d
  | .orow r, .orow q => Nat.beq r q
  | .ptr r o, .ptr q p => Nat.beq r q && Nat.beq o p
  | .fn f rs, .fn g qs => Nat.beq f g && eqL Nat.beq rs qs
  | .own a, .own b => eqP 40 a b
  | .omap r, .omap q => Nat.beq r q
  | _, _ => false
/-- An object as it was. -/
def asWas (h : List (Nat × Ob)) (r : Nat) (o : Ob) : Bool := match o, look h r with
  | .box cs, some (.box ds) => eqL eqC cs ds
  | .row e es, some (.row f fs) => Nat.beq e f && eqL (eqP 40) es fs
  | .deep e es none, some (.deep f fs none) => Nat.beq e f && eqL (eqP 40) es fs
  | .tab a none, some (.tab b none) => eqL (eqP 40) (a.map Prod.fst) (b.map Prod.fst) && eqL (eqP 40) (a.map Prod.snd) (b.map Prod.snd)
  | _, _ => false
/-- A row as long as it was. -/
def rowKept (h H : List (Nat × Ob)) (r : Nat) : Bool := match (look h r).bind Ob.asRow, (look H r).bind Ob.asRow with
  | some x, some y => Nat.beq x.1 y.1 && Nat.beq x.2 y.2
  | _, _ => false
/-- What objects that were handed are then, and a value: what was changed. -/
def outRec (E : Env) (ex : Bool) (d : Nat) (s : St) (ks : List Nat) (v : GV) (H : List (Nat × Ob)) (K : GV → Delta → Option R) : Option R :=
  let f := back d ks
  let hk := H.map fun x => f x.1
  let kh := H.map fun x => x.1
  bif distinct hk && (keysIn kh v.keys && (H.all (fun x => keysIn kh x.2.keys) && H.all fun x => oldKey ks x.1 || !isIn ks (f x.1))) then
    let h := H.map fun x => (f x.1, x.2.map (CV.ren f))
    let stays := fun x : Nat × Ob => ex && (isIn ks x.1 && asWas s.h x.1 x.2)
    let calm := fun r => h.any fun x => Nat.beq x.1 r && stays x
    bif plain E s.h ks H then K (v.map (CV.ren f)) ⟨(H.filter fun x => !oldKey ks x.1).map (fun x => f x.1) ++ ks.filter (fun r => rowAt s.h r && !rowKept s.h h r), ks.filter fun r => !calm r, h.filter fun x => !stays x⟩ else none
  else none
def callRec (E : Env) (ex : Bool) (d : Nat) (s : St) (args : List GV) (F : List GV → List (Nat × Ob) → (GV → List (Nat × Ob) → Option R) → Option R) (K : GV → Delta → Option R) : Option R :=
  let ks := reach s.h 100 (args.flatMap GV.keys) []
  bif Nat.blt ks.length 1000 && (keysIn ks (args.flatMap GV.keys) && ks.all (hasOb s.h ks)) then
    F (args.map (GV.map (CV.ren (pos ks)))) (handed s.h ks ks) fun v H => outRec E ex d s ks v H K
  else none
/-- An operation on what it reads, as if that were handed to it. -/
def opRec (E : Env) (ex : Bool) (ρ : FuncId → Option (Callee R)) (o : Oper) (s : St) (K : GV → Delta → Option R) : Option R :=
  let ks := reach s.h 100 (s.t.flatMap fun x => x.2.keys) []
  bif Nat.blt ks.length 1000 && (keysIn ks (s.t.flatMap fun x => x.2.keys) && ks.all (hasOb s.h ks)) then
    evOp E ρ o { t := s.t.map fun x => (x.1, x.2.map (CV.ren (pos ks))), h := handed s.h ks ks } fun v s1 =>
      outRec E ex (o.dst.getD 0) s ks v (footH s1.h (reach s1.h 200 ((List.range ks.length).map (1000 + ·) ++ v.keys) [])) K
  else none
/-- ex: may what the footprint says be taken as it is? -/
def evRec (E : Env) (ex : Bool) (ρ : FuncId → Option (Callee R)) (o : Oper) (s : St) (K : GV → Delta → Option R) : Option R :=
  let d := o.dst.getD 0
  match o.op with
  | .assign x => match s.evT E o.type x with
    | .c (.nils _) => match E.ty o.type with
      | .slice e => bif Nat.beq e E.tb then none else K (.c (.orow d)) ⟨[d], [d], [(d, .row e [])]⟩
      | _ => none
    | v => K v .none
  | .alloc t => bif !Nat.beq t E.tb && (isStruct (E.ty t) || isScalar (E.ty t)) then K (.c (.ptr d 0)) ⟨[d], [d], [(d, .box (zeroOf E 6 t))]⟩ else none
  | .box t x => bif !Nat.beq t E.tb then wCells E t (s.evT E t x) fun cs => bif isIn (cs.flatMap CV.keys) d then none else K (.c (.ptr d 0)) ⟨[d], [d], [(d, .box cs)]⟩ else none
  | .buildSlice t len parts => match E.ty t with
    | .slice e => bif parts.toList.all fun x => (s.evT E e x.2).pure?.isSome then bif Nat.ble (len * E.sz e) 16777216 && !Nat.beq e E.tb then wParts0 E e s parts.toList len [] fun es => K (.c (.orow d)) ⟨[d], [d], [(d, .row e es)]⟩ else none
      else opRec E ex ρ o s K
    | _ => none
  | .store t a x => match s.ev a with
    | .c (.ptr r off) => match look s.h r with
      | some (.box cs) => wCells E t (s.evT E t x) fun xs => bif Nat.ble (off + xs.length) cs.length then K .any ⟨[], [r], [(r, .box (splice cs off xs))]⟩ else none
      | _ => none
    | _ => opRec E ex ρ o s K
  | .load t a => match openLoad E d s t (s.ev a) with
    | some _ => opRec E ex ρ o s K
    | none => evCalm E ρ o s fun v => K v .none
  | .lookup _ _ _ _ => opRec E ex ρ o s K
  | .mapUpdate _ _ _ _ => opRec E ex ρ o s K
  | .insert _ _ _ _ => opRec E ex ρ o s K
  | .call { callee := .builtin .append, args, argTypes } => bif Nat.beq argTypes.size 2 && Nat.beq args.size 2 then
      match E.ty (argTypes.getD 0 0), Nat.beq (argTypes.getD 0 0) (argTypes.getD 1 0) with
      | .slice e, true => bif Nat.beq e E.tb then none else wSl E (E.sz e) s (s.evT E (argTypes.getD 1 0) (args.getD 1 (.const .nilIface))) fun xs => match s.evT E (argTypes.getD 0 0) (args.getD 0 (.const .nilIface)) with
        | .c (.orow r) => match look s.h r with
          | some (.row e' es) => bif Nat.beq e' e && decide (es.length + xs.length ≤ LIM) then K (.c (.orow r)) ⟨[r], [r], [(r, .row e (es ++ xs))]⟩ else none
          | _ => none
        | .c (.nils _) => bif decide (xs.length ≤ LIM) then K (.c (.orow d)) ⟨[d], [d], [(d, .row e xs)]⟩ else none
        | _ => none
      | _, _ => none
    else none
  | .call { callee := .value f, args, argTypes } => match s.ev f with
    | .c (.fn g rs) => bif bnd g && !Nat.beq args.size 0 then none else match ρ (unb g) with
      | some (.heap F) => bif Nat.beq argTypes.size args.size then callRec E ex d s (wArgs E s (argTypes.toList.zip args.toList) ++ ptrs rs) F K else none
      | some (.pure _) => match evCalm.GVs.pures (wArgs E s (argTypes.toList.zip args.toList)) with
          | some _ => evCalm E ρ o s fun v => K v .none
          | none => opRec E ex ρ o s K
      | none => none
    | _ => none
  | _ => evCalm E ρ o s fun v => K v .none

/-- What is not waited for strikes nothing. -/
def strikesNot (p : Nat) : Nat → List (Rec × St) → Bool
  | _, [] => true
  | i, x :: l => (Nat.testBit p i || x.1.del.zs.isEmpty) && strikesNot p (i + 1) l
def evDraw (E : Env) (n : Nat) (ρ : FuncId → Option (Callee R)) (all : List Oper) : List Oper → Nat → List Nat → St → List (Rec × St) → (St → Option R) → Option R
  | [], _, _, st, _, K => K st
  | o :: l, k, tab, st, recs, K => bif okDst n o.dst && edgesOk k o.after.toList then
      let p := waitsFor tab o.after.toList
      let ex := strikesNot p 0 recs
      let go := fun (st : St) (c : Rec) (s : St) => bif meetOk p c s 0 recs then evDraw E n ρ all l (k + 1) (tab ++ [p]) (c.upd st) (recs ++ [(c, s)]) K else none
      match o.guard with
      | none => let s := footO st o.op (tmpsOf o.op.operands.toList)
        evRec E ex ρ o s fun v D => go st ⟨o.dst, v, D⟩ s
      | some g => match dstOf all g.1 with
        | some t => match isUndef (st.get t) with
          | true => go st ⟨o.dst, .pv .gone, .none⟩ (foot st [t])
          | false => splitB st (.tmp t) fun b st => match b == g.2 with
            | true => let s := footO st o.op (t :: tmpsOf o.op.operands.toList)
              evRec E ex ρ o s fun v D => go st ⟨o.dst, v, D⟩ s
            | false => go st ⟨o.dst, .pv .gone, .none⟩ (foot st [t])
        | none => none
    else none

/-- Rows that a call by plain values is told: by what was moved into its operands. -/
def baseOf (all : List Oper) : Nat → Tmp → Tmp
  | 0, t => t
  | f + 1, t => match all.find? fun o => match o.dst with | some d => Nat.beq d t | none => false with
    | some o => match o.op with
      | .move (.tmp u) => baseOf all f u
      | _ => t
    | none => t
def flatT (E : Env) : Nat → TypeId → Bool
  | 0, _ => false
  | n + 1, t => match E.ty t with
    | .int _ => true
    | .bool => true
    | .str => true
    | .struct fs => fs.all fun f => flatT E n f.2
    | _ => false
def argRows (E : Env) (ρ : FuncId → Option (Callee R)) (st : St) (all : List Oper) : List Nat := all.flatMap fun o => match o.op with
  | .call { callee := .value (.func g), args, .. } => bif flatT E 6 o.type then [] else match ρ g with
    | some (.pure _) => (tmpsOf args.toList).flatMap fun t => (st.get (baseOf all 8 t)).rows
    | _ => []
  | _ => []

/-- The first region's number. -/
def fr : Code → Nat
  | .region id _ _ => id
  | .seq a _ => fr a
  | .block _ c => fr c
  | .loop c => fr c
  | .scope c => fr c
  | .cond _ a b => bif Nat.beq (fr a) 0 then fr b else fr a
  | _ => 0

def exec (E : Env) (n : Nat) (ρ : FuncId → Option (Callee R)) (Λ : Nat → Option (St → (Exit → St → Option R) → Option R)) : Code → St → (Exit → St → Option R) → Option R
  | .skip, st, K => K .normal st
  | .seq a b, st, K => exec E n ρ Λ a st fun e st => match e with
    | .normal => match Λ (2 * fr b + 1) with
      | some J => J st K
      | none => exec E n ρ Λ b st K
    | e => K e st
  | .cond c x y, st, K => splitB st c fun b st => match b with
    | true => exec E n ρ Λ x st K
    | false => exec E n ρ Λ y st K
  | .block id c, st, K => exec E n ρ Λ c st fun e st => match e with
    | .exit j => bif Nat.beq j id then K .normal st else K (.exit j) st
    | e => K e st
  | .loop c, st, K => match Λ (2 * fr c) with
    | some L => L st K
    | none => none
  | .region _ ops draw, st, K => match draw with
    | false => evOps E n ρ ops.toList ops.toList st fun st => K .normal st
    | true => evDraw E n ρ ops.toList ops.toList 0 [] ((st.foldAll E (argRows E ρ st ops.toList)).freezeAll E (argRows E ρ st ops.toList)) [] fun st => K .normal st
  | .exit id, st, K => K (.exit id) st
  | .ret, st, K => K .ret st
  | .scope c, st, K => exec E n ρ Λ c st fun e st => match e with
    | .goto _ => none
    | e => K e st
  | .label _, st, K => K .normal st
  | _, _, _ => none

/-- What is told of the results. -/
def wResults (E : Env) : List (ResultVar × TypeId) → St → List PV → (List PV → Option R) → Option R
  | [], _, acc, K => K acc.reverse
  | (.tmp t, ty) :: l, st, acc, K => wPure E (st.foldAll E (st.get t).rows) ty (.tmp t) fun v st => wResults E l st (v :: acc) K
  | (.cell a t, _) :: l, st, acc, K => evLoad E st t (st.get a) fun v =>
      let st' := (st.foldAll E v.rows).freezeAll E v.rows
      evLoad E st' t (st'.get a) fun v => match v.pure? with
        | some v => wResults E l st' (v :: acc) K
        | none => none
def oneOrAll (K : GV → Option R) : List PV → Option R
  | [v] => K (.pv v)
  | vs => K (.tup (vs.map .p))
def retPure (E : Env) (fn : Func) (K : GV → Option R) : Exit → St → Option R
  | .normal, st => wResults E (fn.results.toList.zip fn.resultTypes.toList) st [] (oneOrAll K)
  | .ret, st => wResults E (fn.results.toList.zip fn.resultTypes.toList) st [] (oneOrAll K)
  | _, _ => none
def args0 : Nat → List GV → List (Nat × GV)
  | _, [] => []
  | i, v :: l => (i, v) :: args0 (i + 1) l
/-- A function called with plain values alone. -/
def execPure (E : Env) (ρ : FuncId → Option (Callee R)) (Λ : Nat → Option (St → (Exit → St → Option R) → Option R)) (fn : Func) (args : List PV) (K : GV → Option R) : Option R :=
  bif Nat.ble args.length fn.ntmps && Nat.beq fn.results.size fn.resultTypes.size then
    match fn.body with
    | some c => exec E fn.ntmps ρ Λ c { t := args0 0 (args.map .pv), h := [] } (retPure E fn K)
    | none => none
  else none

/-- A function that was handed objects. -/
def GV.norm (v : GV) : GV := match v.pure? with
  | some x => .c (.p x)
  | none => v
def gResults (E : Env) : List ResultVar → St → List GV → (List GV → Option R) → Option R
  | [], _, acc, K => K acc.reverse
  | .tmp t :: l, st, acc, K => gResults E l st ((st.get t).norm :: acc) K
  | .cell a t :: l, st, acc, K => evLoad E st t (st.get a) fun v => gResults E l st (v.norm :: acc) K
def allC : List GV → Option (List CV)
  | [] => some []
  | .c v :: l => match allC l with
    | some vs => some (v :: vs)
    | none => none
  | _ :: _ => none
def gOneOrAll (K : GV → Option R) : List GV → Option R
  | [v] => K v
  | vs => match allC vs with
    | some cs => K (.tup cs)
    | none => none
/-- What is left: the objects that were handed, those that the result speaks of, and what they speak of. -/
def left (st : St) (v : GV) : List (Nat × Ob) := footH st.h (reach st.h 200 ((List.range 16).map (1000 + ·) ++ v.keys) [])
/-- Rows that were not handed, and that the results speak of: told as what is only read. -/
def newRows (vs : List GV) : List Nat := (vs.flatMap GV.rows).filter fun r => !(Nat.ble 1000 r && Nat.blt r 2000)
def heapOut (E : Env) (fn : Func) (st : St) (K : GV → List (Nat × Ob) → Option R) : Option R := gResults E fn.results.toList st [] (gOneOrAll fun v => K v (left st v))
def retHeap (E : Env) (fn : Func) (K : GV → List (Nat × Ob) → Option R) : Exit → St → Option R
  | .normal, st => gResults E fn.results.toList st [] fun us => heapOut E fn ((st.foldAll E (newRows us)).freezeAll E (newRows us)) K
  | .ret, st => gResults E fn.results.toList st [] fun us => heapOut E fn ((st.foldAll E (newRows us)).freezeAll E (newRows us)) K
  | _, _ => none
def execHeap (E : Env) (ρ : FuncId → Option (Callee R)) (Λ : Nat → Option (St → (Exit → St → Option R) → Option R)) (fn : Func) (args : List GV) (H : List (Nat × Ob)) (K : GV → List (Nat × Ob) → Option R) : Option R :=
  bif Nat.ble args.length fn.ntmps then
    match fn.body with
    | some c => exec E fn.ntmps ρ Λ c { t := args0 0 args, h := H } (retHeap E fn K)
    | none => none
  else none

/-! The loops and the second parts of a code. -/
def loops : Code → List Code
  | .seq a b => loops a ++ loops b
  | .cond _ a b => loops a ++ loops b
  | .block _ c => loops c
  | .scope c => loops c
  | .loop c => c :: loops c
  | _ => []
def seconds : Code → List Code
  | .seq a b => b :: (seconds a ++ seconds b)
  | .cond _ a b => seconds a ++ seconds b
  | .block _ c => seconds c
  | .scope c => seconds c
  | .loop c => seconds c
  | _ => []
end
end Go.Dip
end

/- An ideal semantics of the model's code, part 3: what represents what; the facts on memory. -/
section
set_option linter.unusedVariables false
set_option linter.unusedSimpArgs false
namespace Go.Dip

abbrev Mem := Nat → Nat → Option Value
def MemLe (I J : Mem) : Prop := ∀ b o v, I b o = some v → J b o = some v
theorem MemLe.refl (I : Mem) : MemLe I I := fun _ _ _ h => h
theorem MemLe.trans {I J K : Mem} (h : MemLe I J) (k : MemLe J K) : MemLe I K := fun b o v x => k b o v (h b o v x)

/-- A row of elements of c cells each, that lies in I. -/
structure RowF (I : Mem) (c n b o : Nat) (f : Nat → Nat → Value) : Prop where
  hI : ∀ i j, i < n → j < c → I b (o + (i * c + j)) = some (f i j)
  h1 : ∀ i j, i < n → j < c → (f i j).oneCell' = true
theorem RowF.mono {I J : Mem} (hIJ : MemLe I J) {c n b o : Nat} {f : Nat → Nat → Value} (h : RowF I c n b o f) : RowF J c n b o f :=
  ⟨fun i j hi hj => hIJ _ _ _ (h.hI i j hi hj), h.h1⟩

/-- A map's cells, as they are told: key, value, stamp of each entry; the end. -/
def mapCells (es : Array MapEntry) (clock : Nat) : List Value := (es.toList.flatMap fun e => [.tuple #[e.key], .tuple #[e.val], .tuple #[.int .i64 e.born]]) ++ [.tuple #[.int .i64 clock, .int .i64 clock]]
/-- A map that is only read: its entries, in the order in which they lie. -/
structure MapF (I : Mem) (n b clock : Nat) (ks vs : Nat → Value) (bo : Nat → Nat) : Prop where
  hk : ∀ i, i < n → I b (3 * i) = some (.tuple #[ks i])
  hv : ∀ i, i < n → I b (3 * i + 1) = some (.tuple #[vs i])
  hb : ∀ i, i < n → I b (3 * i + 2) = some (.tuple #[.int .i64 (bo i)])
  he : I b (3 * n) = some (.tuple #[.int .i64 clock, .int .i64 clock])
  lt : ∀ i, i < n → bo i < clock
  ne : ∀ i j, i < n → j < n → bo i = bo j → i = j
theorem MapF.mono {I J : Mem} (hIJ : MemLe I J) {n b clock : Nat} {ks vs : Nat → Value} {bo : Nat → Nat} (h : MapF I n b clock ks vs bo) : MapF J n b clock ks vs bo :=
  ⟨fun i hi => hIJ _ _ _ (h.hk i hi), fun i hi => hIJ _ _ _ (h.hv i hi), fun i hi => hIJ _ _ _ (h.hb i hi), hIJ _ _ _ h.he, h.lt, h.ne⟩
def ksnd (l : List (PV × PV)) (i : Nat) : PV := (l.getD i (.any, .any)).2

/-- What is only read: the cells that it stands in lie in I, which nobody writes. -/
inductive RepP (I : Mem) : PV → Value → Prop
  | any (v : Value) : RepP I .any v
  | gone : RepP I .gone undef
  | bool (b : Bool) : RepP I (.bool b) (.bool b)
  | int (k : IntKind) (n : Int) : RepP I (.int k n) (.int k n)
  | str (s : List UInt8) : RepP I (.str s) (.string ⟨s.toArray⟩)
  | agg (cs : List PV) (vs : Array Value) (hl : cs.length = vs.size) (h : ∀ i, i < cs.length → RepP I (cs.getD i .any) (vs.getD i undef))
      (h1 : ∀ i, i < cs.length → (vs.getD i undef).oneCell' = true) : RepP I (.agg cs) (.agg vs)
  | nilsl (c : Nat) (a : Option Addr) : RepP I (.sl c []) (.slice a 0 0)
  | sl (c : Nat) (es : List PV) (b o cap : Nat) (f : Nat → Nat → Value) (hcap : es.length ≤ cap) (hc : ∀ i, i < es.length → (es.getD i .any).cnt = c)
      (hI : RowF I c es.length b o f) (hf : ∀ i j, i < es.length → j < c → RepP I (pcell (es.getD i .any) j) (f i j)) :
      RepP I (.sl c es) (.slice (some ⟨b, o, none⟩) es.length cap)
  | fn (f : FuncId) : RepP I (.fn f) (.func (.func (unb f)) #[] #[])
  | nilp : RepP I .nilp (.pointer none)
  | nilif : RepP I .nilif .nilIface
  | someif (t : TypeId) (v : Value) : RepP I .someif (.iface t v)
  | mp (kvs l : List (PV × PV)) (b clock : Nat) (ks vs : Nat → Value) (bo : Nat → Nat) (hp : l.Perm kvs) (hI : MapF I l.length b clock ks vs bo)
      (hk : ∀ i, i < l.length → RepP I (kfst l i) (ks i)) (hv : ∀ i, i < l.length → RepP I (ksnd l i) (vs i)) : RepP I (.mp kvs) (.map (some b))

theorem RepP.mono {I J : Mem} (hIJ : MemLe I J) {x : PV} {v : Value} (h : RepP I x v) : RepP J x v := by
  induction h with
  | any v => exact .any v
  | gone => exact .gone
  | bool b => exact .bool b
  | int k n => exact .int k n
  | str s => exact .str s
  | agg cs vs hl h h1 ih => exact .agg cs vs hl ih h1
  | nilsl c a => exact .nilsl c a
  | sl c es b o cap f hcap hc hI hf ih => exact .sl c es b o cap f hcap hc (hI.mono hIJ) ih
  | fn f => exact .fn f
  | nilp => exact .nilp
  | nilif => exact .nilif
  | someif t v => exact .someif t v
  | mp kvs l b clock ks vs bo hp hI hk hv ih1 ih2 => exact .mp kvs l b clock ks vs bo hp (hI.mono hIJ) ih1 ih2

/-- Where an object of the call's own lies: a box's block; a row: the slice over all of it, an element's cells; a builder's block, and from where on its bytes lie. -/
inductive Loc where
  | box (b : Nat)
  | row (v : Value) (c : Nat)
  | bld (b base : Nat)
  | tab (b : Nat)
  | it (b : Nat)
abbrev Locs := Nat → Option Loc
def Loc.blk : Loc → Option Nat
  | .box b => some b
  | .row v _ => v.ownBlock
  | .bld b _ => some b
  | .tab b => some b
  | .it b => some b

def SubVal (v : Value) (c : Nat) (lo hi : Int) (x : Value) : Prop :=
  0 ≤ lo ∧ lo ≤ hi ∧ ((v = .slice none 0 0 ∧ hi = 0 ∧ x = .slice none 0 0) ∨
    ∃ g n cap o cap', v = .slice (some ⟨g, 0, none⟩) n cap ∧ hi ≤ n ∧ x = .slice (some ⟨g, o, none⟩) (hi - lo).toNat cap' ∧ (lo < hi → o = lo.toNat * c) ∧ (hi - lo).toNat ≤ cap')
def PtrAt (μ : Locs) (r off : Nat) (x : Value) : Prop :=
  (∃ b, μ r = some (.box b) ∧ x = .pointer (some ⟨b, off, none⟩)) ∨ (∃ b, ((∃ base, μ r = some (.bld b base)) ∨ μ r = some (.it b)) ∧ off = 0 ∧ x = .pointer (some ⟨b, 0, none⟩))

def RepC (I : Mem) (μ : Locs) : CV → Value → Prop
  | .p v, x => RepP I v x
  | .nils _, x => x = .slice none 0 0
  | .orow r, x => ∃ c, μ r = some (.row x c)
  | .osub r lo hi, x => ∃ v c, μ r = some (.row v c) ∧ SubVal v c lo hi x
  | .ptr r off, x => PtrAt μ r off x
  | .ptrE r i off, x => ∃ g n cap c, μ r = some (.row (.slice (some ⟨g, 0, none⟩) n cap) c) ∧ 0 ≤ i ∧ i < n ∧ x = .pointer (some ⟨g, i.toNat * c + off, none⟩)
  | .iptr c es i off, x => ∃ b o f, RowF I c es.length b o f ∧ (∀ i, i < es.length → (es.getD i .any).cnt = c) ∧ (∀ i j, i < es.length → j < c → RepP I (pcell (es.getD i .any) j) (f i j)) ∧
      0 ≤ i ∧ i < es.length ∧ x = .pointer (some ⟨b, o + (i.toNat * c + off), none⟩)
  | .fn f rs, x => ∃ fs vs : Array Value, x = .func (.func (unb f)) fs vs ∧ (bnd f = false → fs = #[]) ∧ (fs ++ vs).size = rs.length ∧ ∀ j r, rs[j]? = some r → PtrAt μ r 0 ((fs ++ vs).getD j undef)
  | .glob g, x => x = .pointer (some ⟨g, 0, none⟩)
  | .own _, _ => False
  | .omap r, x => ∃ b, μ r = some (.tab b) ∧ x = .map (some b)

theorem PtrAt.agree {μ ν : Locs} {r off : Nat} {x : Value} (h : PtrAt μ r off x) (e : ν r = μ r) : PtrAt ν r off x := by
  unfold PtrAt at h ⊢
  rw [e]
  exact h
theorem RepC.mono {I J : Mem} {μ ν : Locs} (hIJ : MemLe I J) {v : CV} {x : Value} (h : RepC I μ v x) (hk : ∀ r, r ∈ v.keys → ν r = μ r) : RepC J ν v x := by
  cases v with
  | p v => exact RepP.mono hIJ h
  | nils c => exact h
  | orow r => obtain ⟨c, h1⟩ := h; exact ⟨c, (hk r (by simp [CV.keys])).trans h1⟩
  | osub r a b => obtain ⟨l, c, h1, h2⟩ := h; exact ⟨l, c, (hk r (by simp [CV.keys])).trans h1, h2⟩
  | ptr r o => exact PtrAt.agree h (hk r (by simp [CV.keys]))
  | ptrE r i o => obtain ⟨g, n, cap, c, h1, h2⟩ := h; exact ⟨g, n, cap, c, (hk r (by simp [CV.keys])).trans h1, h2⟩
  | iptr c es i o => obtain ⟨b, p, f, h1, h2, h3, h4⟩ := h; exact ⟨b, p, f, h1.mono hIJ, h2, fun i j hi hj => (h3 i j hi hj).mono hIJ, h4⟩
  | fn f rs =>
    obtain ⟨fs, vs, h1, h0, h2, h3⟩ := h
    exact ⟨fs, vs, h1, h0, h2, fun j r hj => (h3 j r hj).agree (hk r (by simpa [CV.keys] using List.mem_of_getElem? hj))⟩
  | glob g => exact h
  | own v => exact h
  | omap r => obtain ⟨b, h1, h2⟩ := h; exact ⟨b, (hk r (by simp [CV.keys])).trans h1, h2⟩

/-- Cells in a row, each of one cell. -/
def RepCs (I : Mem) (μ : Locs) (cs : List CV) (vs : List Value) : Prop :=
  cs.length = vs.length ∧ ∀ (i : Nat) v, cs[i]? = some v → RepC I μ v (vs.getD i undef) ∧ (vs.getD i undef).oneCell' = true
theorem RepCs.mono {I J : Mem} {μ ν : Locs} (hIJ : MemLe I J) {cs : List CV} {vs : List Value} (h : RepCs I μ cs vs) (hk : ∀ v, v ∈ cs → ∀ r, r ∈ v.keys → ν r = μ r) : RepCs J ν cs vs :=
  ⟨h.1, fun i v hv => ⟨(h.2 i v hv).1.mono hIJ (hk v (List.mem_of_getElem? hv)), (h.2 i v hv).2⟩⟩

def RepG (I : Mem) (μ : Locs) : GV → Value → Prop
  | .c v, x => RepC I μ v x
  | .agg cs, x => ∃ vs : Array Value, x = .agg vs ∧ RepCs I μ cs vs.toList
  | .tup cs, x => ∃ vs : Array Value, x = .tuple vs ∧ cs.length = vs.size ∧ ∀ (i : Nat) v, cs[i]? = some v → RepC I μ v (vs.getD i undef)
theorem RepG.mono {I J : Mem} {μ ν : Locs} (hIJ : MemLe I J) {v : GV} {x : Value} (h : RepG I μ v x) (hk : ∀ r, r ∈ v.keys → ν r = μ r) : RepG J ν v x := by
  cases v with
  | c v => exact RepC.mono hIJ h hk
  | agg cs =>
    obtain ⟨vs, h1, h2⟩ := h
    exact ⟨vs, h1, h2.mono hIJ fun v hv r hr => hk r (by simp only [GV.keys, List.mem_flatMap]; exact ⟨v, hv, hr⟩)⟩
  | tup cs =>
    obtain ⟨vs, h1, h2, h3⟩ := h
    exact ⟨vs, h1, h2, fun i v hv => (h3 i v hv).mono hIJ fun r hr => hk r (by simp only [GV.keys, List.mem_flatMap]; exact ⟨v, List.mem_of_getElem? hv, hr⟩)⟩
theorem RepG.le {I J : Mem} {μ : Locs} (hIJ : MemLe I J) {v : GV} {x : Value} (h : RepG I μ v x) : RepG J μ v x := h.mono hIJ fun _ _ => rfl
theorem RepG.any (I : Mem) (μ : Locs) (x : Value) : RepG I μ .any x := RepP.any x

/-- A row's cells. -/
def RowRep (I : Mem) (c : Nat) (es : List PV) (xs : List Value) : Prop :=
  ∀ i, i < es.length → (es.getD i .any).cnt = c ∧ ∀ j, j < c → RepP I (pcell (es.getD i .any) j) (xs.getD (i * c + j) undef) ∧ (xs.getD (i * c + j) undef).oneCell' = true
theorem RowRep.mono {I J : Mem} (hIJ : MemLe I J) {c : Nat} {es : List PV} {xs : List Value} (h : RowRep I c es xs) : RowRep J c es xs :=
  fun i hi => ⟨(h i hi).1, fun j hj => ⟨((h i hi).2 j hj).1.mono hIJ, ((h i hi).2 j hj).2⟩⟩

/-- What a proof stands in: the types, a builder's type; the blocks ahead of B are not the call's to write; which blocks it was handed (S), one of them a builder's (hb); the world at its beginning. -/
structure Cx where
  E : Env
  tB : TypeId
  B : Nat
  S : Nat → Prop
  hb : Bool
  bb : Nat
  w1 : World
  W0 : World
  df : List Deferred := []
structure CxOk (X : Cx) : Prop where
  low : ∀ k, X.S k → X.W0.heap.size ≤ k
  low1 : X.W0.heap.size ≤ X.w1.heap.size
  lowB : X.W0.heap.size ≤ X.B

structure Frame (X : Cx) (w w' : World) : Prop where
  os : w'.os = w.os
  tape : w'.tape = w.tape
  output : w'.output = w.output
  size : w.heap.size ≤ w'.heap.size
  keep : ∀ b o, w.heap[b]? = some o → ¬ X.S b → (X.hb = true → b < X.bb ∨ ∀ c fz, o ≠ .cells c X.E.tb fz) → w'.heap[b]? = some o

def ImmOk (X : Cx) (I : Mem) (w : World) : Prop :=
  ∀ b o v, I b o = some v → (v.oneCell' = true ∧ ∃ arr T fz, w.heap[b]? = some (.cells arr T fz) ∧ arr[o]? = some v ∧ (b < X.B ∨ T ≠ X.E.tb)) ∨ (v.oneCell' = false ∧ ∃ es clock, w.heap[b]? = some (.map es clock) ∧ (mapCells es clock)[o]? = some v)
theorem ImmOk.cell {X : Cx} {I : Mem} {w : World} (h : ImmOk X I w) {b o : Nat} {v : Value} (hv : I b o = some v) (h1 : v.oneCell' = true) : ∃ arr T fz, w.heap[b]? = some (.cells arr T fz) ∧ arr[o]? = some v ∧ (b < X.B ∨ T ≠ X.E.tb) := by
  rcases h b o v hv with ⟨_, k⟩ | ⟨k, _⟩
  · exact k
  · rw [h1] at k; cases k
theorem ImmOk.map {X : Cx} {I : Mem} {w : World} (h : ImmOk X I w) {b o : Nat} {xs : Array Value} (hv : I b o = some (.tuple xs)) : ∃ es clock, w.heap[b]? = some (.map es clock) ∧ (mapCells es clock)[o]? = some (.tuple xs) := by
  rcases h b o _ hv with ⟨k, _⟩ | ⟨_, k⟩
  · cases k
  · exact k
/-- A block as it is goes on to tell what is only read. -/
theorem ImmOk.keep {X : Cx} {I : Mem} {w w' : World} (h : ImmOk X I w) (hk : ∀ b o, I b o ≠ none → w'.heap[b]? = w.heap[b]?) : ImmOk X I w' := by
  intro b o v hv
  have e := hk b o (by rw [hv]; simp)
  rw [e]
  exact h b o v hv
theorem ImmOk.lt {X : Cx} {I : Mem} {w : World} (h : ImmOk X I w) {b o : Nat} {v : Value} (hv : I b o = some v) : b < w.heap.size := by
  rcases h b o v hv with ⟨_, arr, T, fz, h1, _⟩ | ⟨_, es, clock, h1, _⟩ <;> exact (Array.getElem?_eq_some_iff.1 h1).1

/-- An owned tree in a cell, and the blocks that it lies in. -/
inductive RepE (X : Cx) (I : Mem) (w : World) : PV → Value → List Nat → Prop
  | pure (v : PV) (x : Value) (h0 : isOwned v = false) (h : RepP I v x) : RepE X I w v x []
  | erow (e : TypeId) (es : List PV) (x : Value) (xs : List Value) (he : e ≠ X.E.tb) (ho : w.ownsRow X.B e (X.E.sz e) x es.length xs) (hr : RowRep I (X.E.sz e) es xs) : RepE X I w (.erow e es) x x.ownBlock.toList
  | ebox (cs : List PV) (b : Nat) (arr : Array Value) (T : TypeId) (bss : List (List Nat)) (hB : X.B ≤ b) (hb : w.heap[b]? = some (.cells arr T (0, 0))) (hT : T ≠ X.E.tb) (hl : cs.length = arr.size) (hs : bss.length = arr.size)
      (h : ∀ i, i < arr.size → RepE X I w (cs.getD i .any) (arr.getD i undef) (bss.getD i [])) (h1 : ∀ i, i < arr.size → (arr.getD i undef).oneCell' = true) : RepE X I w (.ebox cs) (.pointer (some ⟨b, 0, none⟩)) (b :: bss.flatten)
/-- A cell of an object. -/
def CellO (X : Cx) (I : Mem) (μ : Locs) (w : World) : CV → Value → List Nat → Prop
  | .own v, x, bs => RepE X I w v x bs
  | .p v, x, bs => RepC I μ (.p v) x ∧ bs = []
  | .nils c, x, bs => RepC I μ (.nils c) x ∧ bs = []
  | .orow r, x, bs => RepC I μ (.orow r) x ∧ bs = []
  | .osub r lo hi, x, bs => RepC I μ (.osub r lo hi) x ∧ bs = []
  | .ptr r o, x, bs => RepC I μ (.ptr r o) x ∧ bs = []
  | .ptrE r i o, x, bs => RepC I μ (.ptrE r i o) x ∧ bs = []
  | .iptr c es i o, x, bs => RepC I μ (.iptr c es i o) x ∧ bs = []
  | .fn f rs, x, bs => RepC I μ (.fn f rs) x ∧ bs = []
  | .glob g, x, bs => RepC I μ (.glob g) x ∧ bs = []
  | .omap r, x, bs => RepC I μ (.omap r) x ∧ bs = []
def CV.isOwn : CV → Bool
  | .own _ => true
  | _ => false
theorem CellO.ref {X : Cx} {I : Mem} {μ : Locs} {w : World} {v : CV} {x : Value} {bs : List Nat} (hv : v.isOwn = false) : CellO X I μ w v x bs ↔ RepC I μ v x ∧ bs = [] := by
  cases v <;> first | exact Iff.rfl | cases hv
theorem CellO.of {X : Cx} {I : Mem} {μ : Locs} {w : World} {v : CV} {x : Value} (h : RepC I μ v x) : CellO X I μ w v x [] := by
  cases v <;> first | exact ⟨h, rfl⟩ | exact absurd h (fun h => h)
/-- The cells of an object, one behind the other. -/
def RepO (X : Cx) (I : Mem) (μ : Locs) (w : World) (cs : List CV) (vs : List Value) (bs : List Nat) : Prop :=
  cs.length = vs.length ∧ ∃ bss : List (List Nat), bss.length = vs.length ∧ bs = bss.flatten ∧ ∀ (i : Nat) v, cs[i]? = some v → CellO X I μ w v (vs.getD i undef) (bss.getD i []) ∧ (vs.getD i undef).oneCell' = true
/-- The cells of a row in which owned trees may stand; those of a map's values. -/
def dcells (c : Nat) (es : List PV) (ho : Option (Nat × Nat × CV)) : List CV := (List.range es.length).flatMap fun i => delem c es ho i
def mcell (x : PV × PV) (ho : Option (PV × CV)) : CV :=
  match ho with
  | some y => bif sameKey y.1 x.1 then y.2 else .own x.2
  | none => .own x.2
def mcells (l : List (PV × PV)) (ho : Option (PV × CV)) : List CV := l.map fun x => mcell x ho

/-- An object, and the blocks that it lies in. -/
def ObB (X : Cx) (I : Mem) (μ : Locs) (w : World) (r : Nat) (o : Ob) (bs : List Nat) : Prop :=
  match o with
  | .box cs => ∃ b arr T is, bs = b :: is ∧ μ r = some (.box b) ∧ X.B ≤ b ∧ w.heap[b]? = some (.cells arr T (0, 0)) ∧ T ≠ X.E.tb ∧ RepO X I μ w cs arr.toList is
  | .row e es => ∃ v xs, bs = v.ownBlock.toList ∧ μ r = some (.row v (X.E.sz e)) ∧ w.ownsRow X.B e (X.E.sz e) v es.length xs ∧ RowRep I (X.E.sz e) es xs
  | .bld s => ∃ b base, bs = [b] ∧ μ r = some (.bld b base) ∧ X.B ≤ base ∧ ((X.hb = true ∧ X.bb ≤ base) ∨ X.w1.heap.size ≤ base) ∧ Lib.IsBuilderF X.tB X.E.tb base b (Lib.byteCells s) w
  | .deep e es ho => ∃ v xs is, bs = v.ownBlock.toList ++ is ∧ μ r = some (.row v (X.E.sz e)) ∧ e ≠ X.E.tb ∧ w.ownsRow X.B e (X.E.sz e) v es.length xs ∧ (∀ i, i < es.length → (es.getD i .any).cnt = X.E.sz e) ∧ RepO X I μ w (dcells (X.E.sz e) es ho) xs is
  | .tab kvs ho => ∃ b es is, bs = b :: is ∧ μ r = some (.tab b) ∧ X.B ≤ b ∧ w.heap[b]? = some (.map es es.size) ∧ (∀ (i : Nat) (e : MapEntry), es[i]? = some e → e.born = i ∧ isKey (kfst kvs i) = true ∧ RepP I (kfst kvs i) e.key) ∧
      kvs.length = es.size ∧ (kvs.map Prod.fst).Nodup ∧ RepO X I μ w (mcells kvs ho) (es.toList.map fun e => e.val) is
  | .it rem cur => ∃ b m since seen clock l ks vs bo, bs = [b] ∧ μ r = some (.it b) ∧ X.B ≤ b ∧ w.heap[b]? = some (.mapIter (some m) since seen clock) ∧ since = clock ∧ MapF I l.length m clock ks vs bo ∧
      (∀ i, i < l.length → RepP I (kfst l i) (ks i) ∧ RepP I (ksnd l i) (vs i)) ∧ (((List.range l.length).filter fun i => !seen.contains (bo i)).map fun i => (kfst l i, ksnd l i)).Perm rem ∧ ∀ y, cur = some y → ∃ i, i < l.length ∧ seen.back? = some (bo i) ∧ y = (kfst l i, ksnd l i)
def ObOk (X : Cx) (I : Mem) (μ : Locs) (w : World) (r : Nat) (o : Ob) : Prop := ∃ bs, ObB X I μ w r o bs

/-- The objects, each in blocks of its own. -/
structure HeapB (X : Cx) (I : Mem) (μ : Locs) (β : Nat → List Nat) (w : World) (h : List (Nat × Ob)) : Prop where
  ok : ∀ r o, look h r = some o → ObB X I μ w r o (β r)
  nodup : ∀ r o, look h r = some o → (β r).Nodup
  apart : ∀ r r' o o', look h r = some o → look h r' = some o' → r ≠ r' → ∀ b, b ∈ β r → b ∉ β r'
  imm : ∀ r o, look h r = some o → ∀ b, b ∈ β r → ∀ p, I b p = none
  own : ∀ r o, look h r = some o → ∀ b, b ∈ β r → X.S b ∨ X.w1.heap.size ≤ b
  alone : ∀ r r' o o', look h r = some o → look h r' = some o' → r ≠ r' → o.isBld = true → o'.isBld = false ∧ o'.isByte X.E = false
def HeapOk (X : Cx) (I : Mem) (μ : Locs) (w : World) (h : List (Nat × Ob)) : Prop := ∃ β, HeapB X I μ β w h

structure Sim (X : Cx) (n : Nat) (I : Mem) (μ : Locs) (st : St) (a : Act) (w : World) : Prop where
  size : a.tmps.size = n
  defers : a.defers = X.df
  t : ∀ i v, look st.t i = some v → RepG I μ v (a.tmps.getD i undef)
  h : HeapOk X I μ w st.h
  im : ImmOk X I w
  bw : X.B ≤ w.heap.size
  fr : Frame X X.w1 w
  cx : CxOk X
  base : RowKit.Below X.W0.heap.size X.W0 w

/-! ### Lists by keys -/
theorem nbeq (a b : Nat) : Nat.beq a b = decide (a = b) := by
  by_cases h : a = b
  · subst h; simp
  · rw [decide_eq_false h]
    cases hb : Nat.beq a b
    · rfl
    · exact absurd (Nat.eq_of_beq_eq_true hb) h
section
variable {α β : Type}
theorem look_cons (x : Nat × α) (l : List (Nat × α)) (i : Nat) : look (x :: l) i = if i = x.1 then some x.2 else look l i := by
  simp only [look, nbeq]
  by_cases h : i = x.1 <;> simp [h]
theorem look_drop (r : Nat) : ∀ (l : List (Nat × α)) (i : Nat), look (drop r l) i = if i = r then none else look l i
  | [], i => by simp [look, drop]
  | x :: l, i => by
    have ih := look_drop r l i
    simp only [drop, nbeq]
    by_cases h : r = x.1
    · simp only [h, decide_true, cond_true]
      rw [← h, ih, look_cons]
      by_cases hi : i = r
      · simp [hi]
      · simp [hi, ← h]
    · simp only [h, decide_false, cond_false]
      rw [look_cons, look_cons, ih]
      by_cases hx : i = x.1
      · have hne : i ≠ r := fun e => h (e ▸ hx)
        rw [if_pos hx, if_neg hne, if_pos hx]
      · rw [if_neg hx, if_neg hx]
theorem look_map (f : α → β) : ∀ (l : List (Nat × α)) (i : Nat), look (l.map fun x => (x.1, f x.2)) i = (look l i).map f
  | [], i => rfl
  | x :: l, i => by
    rw [List.map_cons, look_cons, look_cons, look_map f l i]
    by_cases h : i = x.1 <;> simp [h]
theorem look_append : ∀ (l m : List (Nat × α)) (i : Nat), look (l ++ m) i = (look l i).or (look m i)
  | [], m, i => by simp [look]
  | x :: l, m, i => by
    rw [List.cons_append, look_cons, look_cons, look_append l m i]
    by_cases h : i = x.1 <;> simp [h]
theorem look_mem : ∀ (l : List (Nat × α)) (i : Nat) (v : α), look l i = some v → (i, v) ∈ l
  | [], _, _, h => by simp [look] at h
  | x :: l, i, v, h => by
    rw [look_cons] at h
    by_cases hx : i = x.1
    · simp only [hx, if_true, Option.some.injEq] at h
      subst h
      rw [hx]
      exact .head _
    · simp only [hx, if_false] at h
      exact .tail _ (look_mem l i v h)
end

/-! ### Striking -/
theorem bif_keys {p : Prop} [Decidable p] {v : CV} {r : Nat} (h : ¬ p → r ∉ v.keys) : r ∉ (bif decide p then CV.p .any else v).keys ∧ ∀ k, k ∈ (bif decide p then CV.p .any else v).keys → k ∈ v.keys := by
  by_cases hp : p
  · simp [hp, CV.keys]
  · simp only [hp, decide_false, cond_false]
    exact ⟨h hp, fun k hk => hk⟩
theorem CV.strike_keys (r : Nat) (v : CV) : r ∉ (v.strike r).keys ∧ ∀ k, k ∈ (v.strike r).keys → k ∈ v.keys := by
  cases v with
  | orow q => simp only [CV.strike, nbeq]; exact bif_keys fun h => by simp [CV.keys]; omega
  | osub q a b => simp only [CV.strike, nbeq]; exact bif_keys fun h => by simp [CV.keys]; omega
  | ptr q o => simp only [CV.strike, nbeq]; exact bif_keys fun h => by simp [CV.keys]; omega
  | ptrE q i o => simp only [CV.strike, nbeq]; exact bif_keys fun h => by simp [CV.keys]; omega
  | fn f rs =>
    simp only [CV.strike]
    cases h : rs.any (Nat.beq r ·)
    · simp only [cond_false, CV.keys]
      refine ⟨fun hm => ?_, fun k hk => hk⟩
      have : rs.any (Nat.beq r ·) = true := List.any_eq_true.2 ⟨r, hm, by simp⟩
      rw [h] at this
      cases this
    · simp [CV.keys]
  | omap q => simp only [CV.strike, nbeq]; exact bif_keys fun h => by simp [CV.keys]; omega
  | _ => simp [CV.strike, CV.keys]
theorem RepC.strike {I : Mem} {μ : Locs} {v : CV} {x : Value} (r : Nat) (h : RepC I μ v x) : RepC I μ (v.strike r) x := by
  cases v <;> simp only [CV.strike] <;>
    first
      | exact h
      | (generalize hb : Nat.beq _ r = b; cases b; exact h; exact RepP.any x)
      | (generalize hb : List.any _ _ = b; cases b; exact h; exact RepP.any x)
theorem RepG.strike {I : Mem} {μ : Locs} {v : GV} {x : Value} (r : Nat) (h : RepG I μ v x) : RepG I μ (v.map (CV.strike r)) x := by
  cases v with
  | c v => exact RepC.strike r h
  | agg cs =>
    obtain ⟨vs, h1, h2, h3⟩ := h
    refine ⟨vs, h1, by simpa using h2, fun i v hv => ?_⟩
    rw [List.getElem?_map] at hv
    obtain ⟨u, hu, rfl⟩ := Option.map_eq_some_iff.1 hv
    exact ⟨(h3 i u hu).1.strike r, (h3 i u hu).2⟩
  | tup cs =>
    obtain ⟨vs, h1, h2, h3⟩ := h
    refine ⟨vs, h1, by simpa using h2, fun i v hv => ?_⟩
    rw [List.getElem?_map] at hv
    obtain ⟨u, hu, rfl⟩ := Option.map_eq_some_iff.1 hv
    exact (h3 i u hu).strike r
theorem RepCs.strike {I : Mem} {μ : Locs} {cs : List CV} {vs : List Value} (r : Nat) (h : RepCs I μ cs vs) : RepCs I μ (cs.map (CV.strike r)) vs := by
  refine ⟨by simpa using h.1, fun i v hv => ?_⟩
  rw [List.getElem?_map] at hv
  obtain ⟨u, hu, rfl⟩ := Option.map_eq_some_iff.1 hv
  exact ⟨(h.2 i u hu).1.strike r, (h.2 i u hu).2⟩
theorem GV.strike_keys (r : Nat) (v : GV) : r ∉ (v.map (CV.strike r)).keys := by
  cases v with
  | c v => exact (CV.strike_keys r v).1
  | agg cs =>
    simp only [GV.map, GV.keys, List.mem_flatMap, List.mem_map, not_exists, not_and]
    rintro v ⟨u, _, rfl⟩
    exact (CV.strike_keys r u).1
  | tup cs =>
    simp only [GV.map, GV.keys, List.mem_flatMap, List.mem_map, not_exists, not_and]
    rintro v ⟨u, _, rfl⟩
    exact (CV.strike_keys r u).1
end Go.Dip
end

/- An ideal semantics of the model's code, part 4: how a state goes on representing the world: strikes, new objects, what is frozen. -/
section
set_option linter.unusedVariables false
set_option linter.unusedSimpArgs false
namespace Go.Dip

def upd (μ : Locs) (r : Nat) (l : Loc) : Locs := fun q => if q = r then some l else μ q
theorem upd_same (μ : Locs) (r : Nat) (l : Loc) : upd μ r l r = some l := by simp [upd]
theorem upd_ne (μ : Locs) {r q : Nat} (l : Loc) (h : q ≠ r) : upd μ r l q = μ q := by simp [upd, h]

theorem own_keep {w w' : World} {base e size : Nat} {v : Value} {n : Nat} {xs : List Value} (h : w.ownsRow base e size v n xs) (hw : ∀ b, b ∈ v.ownBlock.toList → w'.heap[b]? = w.heap[b]?) : w'.ownsRow base e size v n xs := by
  refine ⟨h.1, ?_⟩
  rcases h.2 with hn | ⟨g, cap, cur, rfl, hb, hgg, rest⟩
  · exact .inl hn
  · exact .inr ⟨g, cap, cur, rfl, hb, (hw g (by simp [Value.ownBlock])).trans hgg, rest⟩
theorem mem_flat {bss : List (List Nat)} {i b : Nat} (h : b ∈ bss.getD i []) : b ∈ bss.flatten := by
  rw [List.mem_flatten]
  by_cases hi : i < bss.length
  · refine ⟨bss[i], by simp, ?_⟩
    rw [List.getD_eq_getElem?_getD, List.getElem?_eq_getElem hi] at h
    exact h
  · rw [List.getD_eq_getElem?_getD, List.getElem?_eq_none (by omega)] at h
    cases h
/-- An owned tree as it was, where its blocks are as they were. -/
theorem RepE.conv {X X' : Cx} {I J : Mem} {w w' : World} (hIJ : MemLe I J) (hE : X'.E = X.E) (hB : X'.B = X.B) {v : PV} {x : Value} {bs : List Nat} (h : RepE X I w v x bs) : (∀ b, b ∈ bs → w'.heap[b]? = w.heap[b]?) → RepE X' J w' v x bs := by
  induction h with
  | pure v x h0 h => exact fun _ => .pure v x h0 (h.mono hIJ)
  | erow e es x xs he ho hr =>
    intro hw
    have ho' := own_keep ho hw
    rw [← hE] at he hr ho'
    rw [← hB] at ho'
    exact .erow e es x xs he ho' (hr.mono hIJ)
  | ebox cs b arr T bss hb1 hb hT hl hs h h1 ih =>
    intro hw
    exact .ebox cs b arr T bss (hB ▸ hb1) ((hw b (by simp)).trans hb) (hE ▸ hT) hl hs (fun i hi => ih i hi fun c hc => hw c (by simp [mem_flat hc])) h1
theorem RepE.plain {X : Cx} {I : Mem} {w : World} {v : PV} {x : Value} {bs : List Nat} (h : RepE X I w v x bs) (hv : isOwned v = false) : RepP I v x ∧ bs = [] := by
  cases h with
  | pure _ _ h0 hp => exact ⟨hp, rfl⟩
  | erow => cases hv
  | ebox => cases hv
theorem RepE.seen {X : Cx} {I : Mem} {w : World} {v : PV} {x : Value} {bs : List Nat} (h : RepE X I w v x bs) : RepP I v.seen x := by
  cases h with
  | pure _ _ h0 hp => simpa [PV.seen, h0] using hp
  | erow => exact RepP.any _
  | ebox => exact RepP.any _
theorem RepE.lt {X : Cx} {I : Mem} {w : World} {v : PV} {x : Value} {bs : List Nat} (h : RepE X I w v x bs) : ∀ b, b ∈ bs → X.B ≤ b ∧ ∃ arr T, w.heap[b]? = some (.cells arr T (0, 0)) ∧ T ≠ X.E.tb := by
  induction h with
  | pure v x h0 h => intro b hb; cases hb
  | erow e es x xs he ho hr =>
    intro b hb
    rcases ho.2 with ⟨e1, _⟩ | ⟨g, cap, cur, rfl, h1, h2, _⟩
    · rw [e1] at hb; simp [Value.ownBlock] at hb
    · simp [Value.ownBlock] at hb
      subst hb
      exact ⟨h1, _, _, h2, he⟩
  | ebox cs b arr T bss hB hb hT hl hs h h1 ih =>
    intro c hc
    rcases List.mem_cons.1 hc with rfl | hc
    · exact ⟨hB, _, _, hb, hT⟩
    · obtain ⟨l, hl', hc'⟩ := List.mem_flatten.1 hc
      obtain ⟨i, hi⟩ := List.getElem?_of_mem hl'
      have hlt : i < bss.length := (List.getElem?_eq_some_iff.1 hi).1
      exact ih i (by omega) c (by rw [List.getD_eq_getElem?_getD, hi]; exact hc')
theorem RepO.conv {X X' : Cx} {I J : Mem} {μ ν : Locs} {w w' : World} (hIJ : MemLe I J) (hE : X'.E = X.E) (hB : X'.B = X.B) {f : CV → CV} (hf : ∀ y, f (.own y) = .own y) {cs : List CV} {vs : List Value} {bs : List Nat} (h : RepO X I μ w cs vs bs)
    (hc : ∀ v, v ∈ cs → ∀ x, RepC I μ v x → RepC J ν (f v) x) (hw : ∀ b, b ∈ bs → w'.heap[b]? = w.heap[b]?) : RepO X' J ν w' (cs.map f) vs bs := by
  obtain ⟨h1, bss, h2, h3, h4⟩ := h
  refine ⟨by simpa using h1, bss, h2, h3, fun i v hv => ?_⟩
  rw [List.getElem?_map] at hv
  obtain ⟨u, hu, rfl⟩ := Option.map_eq_some_iff.1 hv
  obtain ⟨k1, k2⟩ := h4 i u hu
  refine ⟨?_, k2⟩
  by_cases ho : u.isOwn = true
  · cases u with
    | own y =>
      rw [hf]
      exact RepE.conv hIJ hE hB k1 fun b hb => hw b (by rw [h3]; exact mem_flat hb)
    | _ => cases ho
  · obtain ⟨k3, k4⟩ := (CellO.ref (by simpa using ho)).1 k1
    rw [k4]
    exact CellO.of (hc u (List.mem_of_getElem? hu) _ k3)
theorem RepO.of {X : Cx} {I : Mem} {μ : Locs} {w : World} {cs : List CV} {vs : List Value} (h : RepCs I μ cs vs) : RepO X I μ w cs vs [] := by
  refine ⟨h.1, List.replicate vs.length [], by simp, by simp, fun i v hv => ?_⟩
  obtain ⟨k1, k2⟩ := h.2 i v hv
  refine ⟨?_, k2⟩
  have : (List.replicate vs.length ([] : List Nat)).getD i [] = [] := by
    simp only [List.getD_eq_getElem?_getD, List.getElem?_replicate]
    split <;> rfl
  rw [this]
  exact CellO.of k1
theorem RepO.lt {X : Cx} {I : Mem} {μ : Locs} {w : World} {cs : List CV} {vs : List Value} {bs : List Nat} (h : RepO X I μ w cs vs bs) : ∀ b, b ∈ bs → X.B ≤ b ∧ ∃ arr T, w.heap[b]? = some (.cells arr T (0, 0)) ∧ T ≠ X.E.tb := by
  obtain ⟨h1, bss, h2, h3, h4⟩ := h
  intro b hb
  rw [h3] at hb
  obtain ⟨l, hl, hb⟩ := List.mem_flatten.1 hb
  obtain ⟨i, hi⟩ := List.getElem?_of_mem hl
  have hlt : i < bss.length := (List.getElem?_eq_some_iff.1 hi).1
  have hv : cs[i]? = some cs[i] := by simp
  obtain ⟨k1, _⟩ := h4 i cs[i] hv
  rw [List.getD_eq_getElem?_getD (l := bss), hi] at k1
  generalize cs[i] = v at k1
  by_cases ho : v.isOwn = true
  · cases v with
    | own y => exact RepE.lt k1 b hb
    | _ => cases ho
  · obtain ⟨_, k4⟩ := (CellO.ref (by simpa using ho)).1 k1
    simp only [Option.getD_some] at k4
    rw [k4] at hb
    cases hb

/-- The cells of an object that lead on. -/
def Ob.refs : Ob → List CV
  | .box cs => cs
  | .deep _ _ ho => match ho with | some x => [x.2.2] | none => []
  | .tab _ ho => match ho with | some x => [x.2] | none => []
  | _ => []
theorem dcells_map {f : CV → CV} (hf : ∀ y, f (.own y) = .own y) (c : Nat) (es : List PV) (ho : Option (Nat × Nat × CV)) : (dcells c es ho).map f = dcells c es (ho.map fun x => (x.1, x.2.1, f x.2.2)) := by
  unfold dcells
  rw [List.map_flatMap]
  congr 1
  funext i
  unfold delem
  rw [List.map_map]
  congr 1
  funext j
  cases ho with
  | none => simp [dcell, hf]
  | some x => simp only [Function.comp, dcell, Option.map_some]; cases Nat.beq i x.1 && Nat.beq j x.2.1 <;> simp [hf]
theorem mcells_map {f : CV → CV} (hf : ∀ y, f (.own y) = .own y) (l : List (PV × PV)) (ho : Option (PV × CV)) : (mcells l ho).map f = mcells l (ho.map fun x => (x.1, f x.2)) := by
  unfold mcells
  rw [List.map_map]
  congr 1
  funext x
  cases ho with
  | none => simp [mcell, hf]
  | some y => simp only [Function.comp, mcell, Option.map_some]; cases sameKey y.1 x.1 <;> simp [hf]
theorem dcells_ref {c : Nat} {es : List PV} {ho : Option (Nat × Nat × CV)} {v : CV} (h : v ∈ dcells c es ho) : v.isOwn = true ∨ v ∈ (Ob.deep 0 es ho).refs := by
  unfold dcells at h
  obtain ⟨i, _, h⟩ := List.mem_flatMap.1 h
  obtain ⟨j, _, rfl⟩ := List.mem_map.1 h
  cases ho with
  | none => exact .inl rfl
  | some x => simp only [dcell, Ob.refs]; cases Nat.beq i x.1 && Nat.beq j x.2.1 <;> simp [CV.isOwn]
theorem mcells_ref {l : List (PV × PV)} {kvs : List (PV × PV)} {ho : Option (PV × CV)} {v : CV} (h : v ∈ mcells l ho) : v.isOwn = true ∨ v ∈ (Ob.tab kvs ho).refs := by
  obtain ⟨x, _, rfl⟩ := List.mem_map.1 h
  cases ho with
  | none => exact .inl rfl
  | some y => simp only [mcell, Ob.refs]; cases sameKey y.1 x.1 <;> simp [CV.isOwn]
theorem refs_keys {o : Ob} {v : CV} {k : Nat} (h : v ∈ o.refs) (hk : k ∈ v.keys) : k ∈ o.keys := by
  cases o with
  | box cs => simp only [Ob.keys, List.mem_flatMap]; exact ⟨v, h, hk⟩
  | deep e es ho => cases ho with
    | none => simp [Ob.refs] at h
    | some x => simp only [Ob.refs, List.mem_singleton] at h; subst h; exact hk
  | tab kvs ho => cases ho with
    | none => simp [Ob.refs] at h
    | some x => simp only [Ob.refs, List.mem_singleton] at h; subst h; exact hk
  | _ => simp [Ob.refs] at h
theorem own_notC {I : Mem} {μ : Locs} {v : CV} {x : Value} (h : RepC I μ v x) : v.isOwn = false := by cases v <;> first | rfl | exact absurd h fun h => h
/-- An object, told otherwise, elsewhere, later. -/
theorem ObB.conv {X X' : Cx} {I J : Mem} {μ ν : Locs} {w w' : World} {r q : Nat} {o : Ob} {bs : List Nat} (hIJ : MemLe I J) (hE : X'.E = X.E) (hB : X'.B = X.B) {f : CV → CV} (hf : ∀ y, f (.own y) = .own y) (h : ObB X I μ w r o bs) (hr : ν q = μ r)
    (hc : ∀ v, v ∈ o.refs → ∀ x, RepC I μ v x → RepC J ν (f v) x) (hw : ∀ b, b ∈ bs → w'.heap[b]? = w.heap[b]?)
    (hbld : ∀ s, o = .bld s → ∀ b base, μ r = some (.bld b base) → (((X.hb = true ∧ X.bb ≤ base) ∨ X.w1.heap.size ≤ base) ∧ Lib.IsBuilderF X.tB X.E.tb base b (Lib.byteCells s) w) → (((X'.hb = true ∧ X'.bb ≤ base) ∨ X'.w1.heap.size ≤ base) ∧ Lib.IsBuilderF X'.tB X'.E.tb base b (Lib.byteCells s) w')) : ObB X' J ν w' q (o.map f) bs := by
  cases o with
  | box cs =>
    obtain ⟨b, arr, T, is, rfl, h1, h2, h3, h4, h5⟩ := h
    exact ⟨b, arr, T, is, rfl, hr.trans h1, hB ▸ h2, (hw b (by simp)).trans h3, hE ▸ h4, h5.conv hIJ hE hB hf (fun v hv => hc v hv) fun c hc => hw c (by simp [hc])⟩
  | row e es =>
    obtain ⟨v, xs, rfl, h1, h2, h3⟩ := h
    refine ⟨v, xs, rfl, by rw [hE]; exact hr.trans h1, ?_, by rw [hE]; exact h3.mono hIJ⟩
    rw [hE, hB]
    exact own_keep h2 hw
  | bld s =>
    obtain ⟨b, base, rfl, h1, h2, h3, h4⟩ := h
    obtain ⟨k1, k2⟩ := hbld s rfl b base h1 ⟨h3, h4⟩
    exact ⟨b, base, rfl, hr.trans h1, hB ▸ h2, k1, k2⟩
  | deep e es ho =>
    obtain ⟨v, xs, is, rfl, h1, h2, h3, h4, h5⟩ := h
    refine ⟨v, xs, is, rfl, by rw [hE]; exact hr.trans h1, by rw [hE]; exact h2, ?_, by rw [hE]; exact h4, ?_⟩
    · rw [hE, hB]; exact own_keep h3 fun b hb => hw b (by simp [hb])
    · rw [hE, ← dcells_map hf]
      refine h5.conv hIJ hE hB hf (fun u hu x hx => ?_) fun b hb => hw b (by simp [hb])
      rcases dcells_ref hu with k | k
      · have := own_notC hx; rw [this] at k; cases k
      · exact hc u k x hx
  | tab kvs ho =>
    obtain ⟨b, es, is, rfl, h1, h2, h3, h4, h5, h6, h7⟩ := h
    refine ⟨b, es, is, rfl, hr.trans h1, hB ▸ h2, (hw b (by simp)).trans h3, fun i e he => ⟨(h4 i e he).1, (h4 i e he).2.1, (h4 i e he).2.2.mono hIJ⟩, h5, h6, ?_⟩
    rw [← mcells_map hf]
    refine h7.conv hIJ hE hB hf (fun u hu x hx => ?_) fun c hc => hw c (by simp [hc])
    rcases mcells_ref (kvs := kvs) hu with k | k
    · have := own_notC hx; rw [this] at k; cases k
    · exact hc u k x hx
  | it rem cur =>
    obtain ⟨b, m, since, seen, clock, l, ks, vs, bo, rfl, h1, h2, h3, h4, h5, h6, h7⟩ := h
    exact ⟨b, m, since, seen, clock, l, ks, vs, bo, rfl, hr.trans h1, hB ▸ h2, (hw b (by simp)).trans h3, h4, h5.mono hIJ, fun i hi => ⟨(h6 i hi).1.mono hIJ, (h6 i hi).2.mono hIJ⟩, h7⟩
theorem HeapOk.ok {X : Cx} {I : Mem} {μ : Locs} {w : World} {h : List (Nat × Ob)} (hh : HeapOk X I μ w h) : ∀ r o, look h r = some o → ObOk X I μ w r o := fun r o ho => ⟨_, hh.choose_spec.ok r o ho⟩
theorem rowAt_inv {st : St} {q : Nat} {x : TypeId × Nat} (h : st.rlen q = some x) : ∃ o, look st.h q = some o ∧ o.asRow = some x := by
  unfold St.rlen at h
  split at h
  · rename_i o ho; exact ⟨o, ho, h⟩
  · cases h
theorem ObOk.asRow {X : Cx} {I : Mem} {μ : Locs} {w : World} {q : Nat} {o : Ob} {x : TypeId × Nat} (h : ObOk X I μ w q o) (ho : o.asRow = some x) : ∃ v xs, μ q = some (.row v (X.E.sz x.1)) ∧ w.ownsRow X.B x.1 (X.E.sz x.1) v x.2 xs := by
  obtain ⟨bs, h⟩ := h
  cases o with
  | row e es =>
    simp only [Ob.asRow, Option.some.injEq] at ho
    subst ho
    obtain ⟨v, xs, _, h1, h2, _⟩ := h
    exact ⟨v, xs, h1, h2⟩
  | deep e es hole =>
    simp only [Ob.asRow, Option.some.injEq] at ho
    subst ho
    obtain ⟨v, xs, is, _, h1, _, h2, _⟩ := h
    exact ⟨v, xs, h1, h2⟩
  | _ => cases ho
theorem Ob.map_id (o : Ob) : o.map (fun v => v) = o := by
  cases o with
  | box cs => simp [Ob.map]
  | deep e es ho => cases ho <;> simp [Ob.map]
  | tab kvs ho => cases ho <;> simp [Ob.map]
  | _ => rfl
theorem ObB.le {X : Cx} {I J : Mem} {μ : Locs} {w : World} {r : Nat} {o : Ob} {bs : List Nat} (hIJ : MemLe I J) (h : ObB X I μ w r o bs) : ObB X J μ w r o bs := by
  have := ObB.conv (J := J) (ν := μ) (w' := w) (q := r) (f := fun v => v) hIJ rfl rfl (fun _ => rfl) h rfl (fun v _ x hx => hx.mono hIJ fun _ _ => rfl) (fun _ _ => rfl) (fun s hs b base hb hx => hx)
  rwa [Ob.map_id] at this
theorem ObOk.le {X : Cx} {I J : Mem} {μ : Locs} {w : World} {r : Nat} {o : Ob} (hIJ : MemLe I J) (h : ObOk X I μ w r o) : ObOk X J μ w r o := ⟨_, h.choose_spec.le hIJ⟩
/-- r is struck: the table may say of r what it will. -/
theorem ObB.strike {X : Cx} {I : Mem} {μ ν : Locs} {w : World} {r q : Nat} {o : Ob} {bs : List Nat} (h : ObB X I μ w q o bs) (hq : q ≠ r) (hν : ∀ k, k ≠ r → ν k = μ k) : ObB X I ν w q (o.map (CV.strike r)) bs :=
  ObB.conv (MemLe.refl I) rfl rfl (fun _ => rfl) h (hν q hq) (fun v _ x hx => (hx.strike r).mono (MemLe.refl I) fun k hk => hν k fun e => (CV.strike_keys r v).1 (e ▸ hk)) (fun _ _ => rfl) (fun s hs b base hb hx => hx)

theorem look_strike (r : Nat) (st : St) (q : Nat) : look (st.strike r).h q = if q = r then none else (look st.h q).map (Ob.map (CV.strike r)) := by
  simp only [St.strike, St.map, look_map, look_drop]
  split <;> simp
theorem look_strike_t (r : Nat) (st : St) (i : Nat) : look (st.strike r).t i = (look st.t i).map (GV.map (CV.strike r)) := by
  simp only [St.strike, St.map, look_map]
theorem Ob.map_isBld (f : CV → CV) (o : Ob) : (o.map f).isBld = o.isBld := by cases o <;> rfl
theorem Ob.map_isByte (f : CV → CV) (E : Env) (o : Ob) : (o.map f).isByte E = o.isByte E := by cases o <;> rfl

/-- Objects of a state that come of those of another one, key by key. -/
theorem HeapB.sub {X X' : Cx} {I J : Mem} {μ ν : Locs} {β : Nat → List Nat} {w w' : World} {h h' : List (Nat × Ob)} (hb : HeapB X I μ β w h)
    (key : ∀ q o, look h' q = some o → ∃ o', look h q = some o' ∧ ObB X' J ν w' q o (β q) ∧ o.isBld = o'.isBld ∧ o.isByte X'.E = o'.isByte X.E)
    (himm : ∀ q o o', look h q = some o → look h' q = some o' → ∀ b, b ∈ β q → (∀ p, I b p = none) → ∀ p, J b p = none) (hown : ∀ b, X.S b ∨ X.w1.heap.size ≤ b → X'.S b ∨ X'.w1.heap.size ≤ b) : HeapB X' J ν β w' h' := by
  refine ⟨?_, ?_, ?_, ?_, ?_, ?_⟩
  · intro q o ho; obtain ⟨_, _, k, _⟩ := key q o ho; exact k
  · intro q o ho; obtain ⟨p, k, _⟩ := key q o ho; exact hb.nodup q p k
  · intro q q' o o' ho ho' hne
    obtain ⟨p, k, _⟩ := key q o ho
    obtain ⟨p', k', _⟩ := key q' o' ho'
    exact hb.apart q q' p p' k k' hne
  · intro q o ho b hbq
    obtain ⟨p, k, _⟩ := key q o ho
    exact himm q p o k ho b hbq (hb.imm q p k b hbq)
  · intro q o ho b hbq
    obtain ⟨p, k, _⟩ := key q o ho
    exact hown b (hb.own q p k b hbq)
  · intro q q' o o' ho ho' hne hbl
    obtain ⟨p, k, _, k1, _⟩ := key q o ho
    obtain ⟨p', k', _, k1', k2'⟩ := key q' o' ho'
    rw [k1] at hbl
    rw [k1', k2']
    exact hb.alone q q' p p' k k' hne hbl
theorem Ob.map_isBld' (f : CV → CV) (o : Ob) : (o.map f).isBld = o.isBld := Ob.map_isBld f o

theorem HeapOk.strike {X : Cx} {I : Mem} {μ ν : Locs} {w : World} {st : St} (h : HeapOk X I μ w st.h) (r : Nat) (hν : ∀ k, k ≠ r → ν k = μ k) : HeapOk X I ν w (st.strike r).h := by
  obtain ⟨β, h⟩ := h
  refine ⟨β, h.sub (fun q o ho => ?_) (fun _ _ _ _ _ _ _ h => h) (fun _ h => h)⟩
  rw [look_strike] at ho
  by_cases hq : q = r
  · simp [hq] at ho
  · simp only [hq, if_false] at ho
    obtain ⟨o', h1, rfl⟩ := Option.map_eq_some_iff.1 ho
    exact ⟨o', h1, (h.ok q o' h1).strike hq hν, Ob.map_isBld _ _, Ob.map_isByte _ _ _⟩

theorem Sim.strike {X : Cx} {n : Nat} {I : Mem} {μ ν : Locs} {st : St} {a : Act} {w : World} (h : Sim X n I μ st a w) (r : Nat) (hν : ∀ k, k ≠ r → ν k = μ k) : Sim X n I ν (st.strike r) a w := by
  refine ⟨h.size, h.defers, ?_, h.h.strike r hν, h.im, h.bw, h.fr, h.cx, h.base⟩
  intro i v hv
  rw [look_strike_t] at hv
  obtain ⟨u, hu, rfl⟩ := Option.map_eq_some_iff.1 hv
  refine ((h.t i u hu).strike r).mono (MemLe.refl I) fun k hk => hν k ?_
  intro e
  subst e
  exact GV.strike_keys k u hk

/-- The world goes on: new blocks, and at most the block 'row' is another one. -/
theorem grown_at {w w' : World} {row : Option Nat} (hg : w.grownBy w' row) {b : Nat} (hb : b < w.heap.size) (hne : row ≠ some b) : w'.heap[b]? = w.heap[b]? := hg.block b hb fun e => hne e.symm
theorem ObB.lt {X : Cx} {I : Mem} {μ : Locs} {w : World} {r : Nat} {o : Ob} {bs : List Nat} (h : ObB X I μ w r o bs) : ∀ b, b ∈ bs → b < w.heap.size := by
  have cells : ∀ {b : Nat} {o : Obj}, w.heap[b]? = some o → b < w.heap.size := fun h => (Array.getElem?_eq_some_iff.1 h).1
  have own : ∀ {e c n : Nat} {v : Value} {xs : List Value}, w.ownsRow X.B e c v n xs → ∀ b, b ∈ v.ownBlock.toList → b < w.heap.size := fun h b hb => (h.lt b (by simpa using hb)).2
  have inner : ∀ {cs : List CV} {vs : List Value} {is : List Nat}, RepO X I μ w cs vs is → ∀ b, b ∈ is → b < w.heap.size := fun h b hb => by
    obtain ⟨_, arr, T, h1, _⟩ := h.lt b hb
    exact cells h1
  intro b hb
  cases o with
  | box cs =>
    obtain ⟨b', arr, T, is, rfl, h1, h2, h3, h4, h5⟩ := h
    rcases List.mem_cons.1 hb with rfl | hb
    · exact cells h3
    · exact inner h5 b hb
  | row e es => obtain ⟨v, xs, rfl, h1, h2, h3⟩ := h; exact own h2 b hb
  | bld s =>
    obtain ⟨b', base, rfl, h1, h2, h3, h4⟩ := h
    simp only [List.mem_singleton] at hb
    subst hb
    rcases h4 with ⟨_, v, k, _⟩ | ⟨_, v, k, _⟩ <;> exact cells k
  | deep e es ho =>
    obtain ⟨v, xs, is, rfl, h1, h2, h3, h4, h5⟩ := h
    rcases List.mem_append.1 hb with hb | hb
    · exact own h3 b hb
    · exact inner h5 b hb
  | tab kvs ho =>
    obtain ⟨b', es, is, rfl, h1, h2, h3, h4, h5, h6, h7⟩ := h
    rcases List.mem_cons.1 hb with rfl | hb
    · exact cells h3
    · exact inner h7 b hb
  | it rem cur =>
    obtain ⟨b', m, since, seen, clock, l, ks, vs, bo, rfl, h1, h2, h3, _⟩ := h
    simp only [List.mem_singleton] at hb
    subst hb
    exact cells h3
theorem ObB.grown {X : Cx} {I : Mem} {μ : Locs} {w w' : World} {r : Nat} {o : Ob} {bs : List Nat} {row : Option Nat} (h : ObB X I μ w r o bs) (hg : w.grownBy w' row) (hl : ∀ k, row = some k → k ∉ bs)
    (hb : o.isBld = true → ∀ k, row = some k → ∃ o, w.heap[k]? = some o ∧ ∀ arr fz, o ≠ .cells arr X.E.tb fz) : ObB X I μ w' r o bs := by
  have hlt := h.lt
  have := ObB.conv (J := I) (ν := μ) (w' := w') (q := r) (f := fun v => v) (MemLe.refl I) rfl rfl (fun _ => rfl) h rfl (fun v _ x hx => hx) (fun b hb => grown_at hg (hlt b hb) fun e => hl b e hb) (fun s hs b base hμ hx => ?_)
  · rwa [Ob.map_id] at this
  · refine ⟨hx.1, ?_⟩
    have hbs : bs = [b] := by
      subst hs
      obtain ⟨b', base', e1, e2, _⟩ := h
      rw [hμ] at e2
      injection e2 with e2
      injection e2 with e2 _
      rw [e1, e2]
    have hne : row ≠ some b := fun e => hl b e (by simp [hbs])
    have one : ∀ p, Lib.BuilderAtF X.tB X.E.tb base b p (Lib.byteCells s) w → Lib.BuilderAtF X.tB X.E.tb base b p (Lib.byteCells s) w' := by
      intro p hp
      obtain ⟨k1, v, k2, k3, k4⟩ := hp
      refine ⟨k1, v, ?_, ?_, k4⟩
      · rw [grown_at hg (Array.getElem?_eq_some_iff.1 k2).1 hne]
        exact k2
      · refine ⟨k3.1, ?_⟩
        rcases k3.2 with hn | ⟨g, cap, cur, fz, hv, hbg, hgg, rest⟩
        · exact .inl hn
        · refine .inr ⟨g, cap, cur, fz, hv, hbg, ?_, rest⟩
          rw [grown_at hg (Array.getElem?_eq_some_iff.1 hgg).1 ?_]
          · exact hgg
          · intro e
            obtain ⟨o', h5, h6⟩ := hb (by rw [hs]; rfl) g e
            rw [hgg] at h5
            injection h5 with h5
            exact h6 _ _ h5.symm
    exact hx.2.elim (fun h => .inl (one _ h)) fun h => .inr (one _ h)

theorem ImmOk.grown {X : Cx} {I : Mem} {w w' : World} {row : Option Nat} (h : ImmOk X I w) (hg : w.grownBy w' row) (hi : ∀ k, row = some k → ∀ p, I k p = none) : ImmOk X I w' := by
  refine h.keep fun b o hne => ?_
  cases hv : I b o with
  | none => exact absurd hv hne
  | some v =>
    refine grown_at hg (h.lt hv) fun e => ?_
    rw [hi b e o] at hv
    cases hv
theorem Frame.grown {X : Cx} {w1 w w' : World} {row : Option Nat} (h : Frame X w1 w) (hg : w.grownBy w' row) (hr : ∀ k, row = some k → X.S k ∨ w1.heap.size ≤ k) : Frame X w1 w' := by
  refine ⟨hg.os.trans h.os, hg.tape.trans h.tape, hg.output.trans h.output, Nat.le_trans h.size hg.size, ?_⟩
  intro b o hb hS hx
  have h1 := h.keep b o hb hS hx
  rw [hg.block b (Array.getElem?_eq_some_iff.1 h1).1 ?_]
  · exact h1
  · intro e
    rcases hr b e.symm with k | k
    · exact hS k
    · have := (Array.getElem?_eq_some_iff.1 hb).1
      omega

/-- Beside the objects of the state the world goes on. -/
structure Aside (X : Cx) (I : Mem) (β : Nat → List Nat) (w : World) (h : List (Nat × Ob)) (row : Option Nat) : Prop where
  free : ∀ k, row = some k → ∀ r o, look h r = some o → k ∉ β r
  own : ∀ k, row = some k → X.S k ∨ X.w1.heap.size ≤ k
  imm : ∀ k, row = some k → ∀ p, I k p = none
  byte : ∀ k, row = some k → (∃ o, w.heap[k]? = some o ∧ ∀ arr fz, o ≠ .cells arr X.E.tb fz) ∨ ∀ r o, look h r = some o → o.isBld = false
theorem Aside.none (X : Cx) (I : Mem) (β : Nat → List Nat) (w : World) (h : List (Nat × Ob)) : Aside X I β w h none :=
  ⟨fun _ h => (by cases h), fun _ h => (by cases h), fun _ h => (by cases h), fun _ h => (by cases h)⟩

theorem HeapB.grown {X : Cx} {I : Mem} {μ : Locs} {β : Nat → List Nat} {w w' : World} {h : List (Nat × Ob)} {row : Option Nat} (hh : HeapB X I μ β w h) (hg : w.grownBy w' row) (ha : Aside X I β w h row) : HeapB X I μ β w' h := by
  refine hh.sub (fun r o ho => ⟨o, ho, (hh.ok r o ho).grown hg (fun k hk => ha.free k hk r o ho) (fun hb k hk => ?_), rfl, rfl⟩) (fun _ _ _ _ _ _ _ h => h) (fun _ h => h)
  rcases ha.byte k hk with e | e
  · exact e
  · rw [e r o ho] at hb
    cases hb
theorem Sim.grown' {X : Cx} {n : Nat} {I : Mem} {μ : Locs} {st : St} {a : Act} {w w' : World} {row : Option Nat} {β : Nat → List Nat} (h : Sim X n I μ st a w) (hβ : HeapB X I μ β w st.h) (hg : w.grownBy w' row) (ha : Aside X I β w st.h row) : Sim X n I μ st a w' :=
  ⟨h.size, h.defers, h.t, ⟨β, hβ.grown hg ha⟩, h.im.grown hg ha.imm, Nat.le_trans h.bw hg.size, h.fr.grown hg ha.own, h.cx,
    h.base.grown hg (Nat.le_trans h.cx.lowB h.bw) fun k hk => by
      rcases ha.own k hk with e | e
      · exact h.cx.low k e
      · exact Nat.le_trans h.cx.low1 e⟩
theorem Sim.grown {X : Cx} {n : Nat} {I : Mem} {μ : Locs} {st : St} {a : Act} {w w' : World} (h : Sim X n I μ st a w) (hg : w.grownBy w' none) : Sim X n I μ st a w' := by
  obtain ⟨β, hβ⟩ := h.h
  exact h.grown' hβ hg (Aside.none ..)

theorem grownBy_drew (w : World) (row : Option Nat) : w.grownBy w.drew row := ⟨rfl, rfl, rfl, Nat.le_refl _, fun _ _ _ => rfl⟩
theorem Sim.drew {X : Cx} {n : Nat} {I : Mem} {μ : Locs} {st : St} {a : Act} {w : World} (h : Sim X n I μ st a w) : Sim X n I μ st a w.drew := h.grown (grownBy_drew w none)

/-- An object more, at a key that nothing names. -/
theorem HeapB.new' {X : Cx} {I : Mem} {μ : Locs} {β : Nat → List Nat} {w : World} {h : List (Nat × Ob)} {d : Nat} {o : Ob} {bs : List Nat} (hh : HeapB X I μ β w h) (hd : look h d = none) (ho : ObB X I μ w d o bs) (hn : bs.Nodup)
    (hfree : ∀ b, b ∈ bs → (∀ r o, look h r = some o → b ∉ β r) ∧ (∀ p, I b p = none) ∧ (X.S b ∨ X.w1.heap.size ≤ b)) (hnew : ∀ q p, look h q = some p → (o.isBld = true → p.isBld = false ∧ p.isByte X.E = false) ∧ (p.isBld = true → o.isBld = false ∧ o.isByte X.E = false)) :
    HeapB X I μ (fun r => if r = d then bs else β r) w ((d, o) :: h) := by
  have key : ∀ q p, look ((d, o) :: h) q = some p → (q = d ∧ p = o) ∨ (q ≠ d ∧ look h q = some p) := by
    intro q p hp
    rw [look_cons] at hp
    by_cases e : q = d
    · simp only [e, if_true, Option.some.injEq] at hp
      exact .inl ⟨e, hp.symm⟩
    · simp only [e, if_false] at hp
      exact .inr ⟨e, hp⟩
  refine ⟨?_, ?_, ?_, ?_, ?_, ?_⟩
  · intro q p hp
    rcases key q p hp with ⟨rfl, rfl⟩ | ⟨hne, h1⟩
    · simpa using ho
    · simpa [hne] using hh.ok q p h1
  · intro q p hp
    rcases key q p hp with ⟨rfl, rfl⟩ | ⟨hne, h1⟩
    · simpa using hn
    · simpa [hne] using hh.nodup q p h1
  · intro q q' p p' hp hp' hne b hb
    rcases key q p hp with ⟨rfl, rfl⟩ | ⟨hd1, k1⟩ <;> rcases key q' p' hp' with ⟨rfl, rfl⟩ | ⟨hd2, k2⟩
    · exact absurd rfl hne
    · simp only [if_true, hd2, if_false] at hb ⊢
      exact (hfree b hb).1 q' p' k2
    · simp only [if_true, hd1, if_false] at hb ⊢
      intro e
      exact (hfree b e).1 q p k1 hb
    · simp only [hd1, hd2, if_false] at hb ⊢
      exact hh.apart q q' p p' k1 k2 hne b hb
  · intro q p hp b hb
    rcases key q p hp with ⟨rfl, rfl⟩ | ⟨hne, k1⟩
    · simp only [if_true] at hb
      exact (hfree b hb).2.1
    · simp only [hne, if_false] at hb
      exact hh.imm q p k1 b hb
  · intro q p hp b hb
    rcases key q p hp with ⟨rfl, rfl⟩ | ⟨hne, k1⟩
    · simp only [if_true] at hb
      exact (hfree b hb).2.2
    · simp only [hne, if_false] at hb
      exact hh.own q p k1 b hb
  · intro q q' p p' hp hp' hne hb
    rcases key q p hp with ⟨rfl, rfl⟩ | ⟨_, k1⟩ <;> rcases key q' p' hp' with ⟨rfl, rfl⟩ | ⟨_, k2⟩
    · exact absurd rfl hne
    · exact (hnew q' p' k2).1 hb
    · exact (hnew q p k1).2 hb
    · exact hh.alone q q' p p' k1 k2 hne hb
theorem okNew_alone {E : Env} {h : List (Nat × Ob)} {o : Ob} (hok : okNew E h o = true) : ∀ q p, look h q = some p → (o.isBld = true → p.isBld = false ∧ p.isByte E = false) ∧ (p.isBld = true → o.isBld = false ∧ o.isByte E = false) := by
  intro q p hp
  have hm := look_mem h q p hp
  unfold okNew at hok
  cases hb : o.isBld
  · rw [hb] at hok
    simp only [cond_false] at hok
    refine ⟨fun e => (by cases e), fun e => ⟨rfl, ?_⟩⟩
    cases hy : o.isByte E
    · rfl
    · rw [hy] at hok
      simp only [cond_true, List.all_eq_true] at hok
      have := hok _ hm
      simp [e] at this
  · rw [hb] at hok
    simp only [cond_true, List.all_eq_true] at hok
    have := hok _ hm
    simp only [Bool.and_eq_true, Bool.not_eq_true'] at this
    exact ⟨fun _ => this, fun e => (by rw [this.1] at e; cases e)⟩
theorem HeapB.new {X : Cx} {I : Mem} {μ : Locs} {β : Nat → List Nat} {w : World} {h : List (Nat × Ob)} {d : Nat} {o : Ob} {bs : List Nat} (hh : HeapB X I μ β w h) (hd : look h d = none) (ho : ObB X I μ w d o bs) (hn : bs.Nodup)
    (hfree : ∀ b, b ∈ bs → (∀ r o, look h r = some o → b ∉ β r) ∧ (∀ p, I b p = none) ∧ (X.S b ∨ X.w1.heap.size ≤ b)) (hok : okNew X.E h o = true) : HeapOk X I μ w ((d, o) :: h) := ⟨_, hh.new' hd ho hn hfree (okNew_alone hok)⟩

/-- No object of the state, nothing that is only read, lies in a block that isn't there yet. -/
theorem Sim.fresh {X : Cx} {n : Nat} {I : Mem} {μ : Locs} {st : St} {a : Act} {w : World} {β : Nat → List Nat} (h : Sim X n I μ st a w) (hβ : HeapB X I μ β w st.h) {b : Nat} (hb : w.heap.size ≤ b) :
    (∀ r o, look st.h r = some o → b ∉ β r) ∧ (∀ p, I b p = none) ∧ (X.S b ∨ X.w1.heap.size ≤ b) := by
  refine ⟨?_, ?_, .inr (Nat.le_trans h.fr.size hb)⟩
  · intro r o ho e
    have := (hβ.ok r o ho).lt b e
    omega
  · intro p
    cases hI : I b p with
    | none => rfl
    | some v =>
      have := h.im.lt hI
      omega

theorem strike_none (d : Nat) (st : St) : look (st.strike d).h d = none := by rw [look_strike]; simp
theorem grownBy_alloc' (w : World) (o : Obj) (row : Option Nat) : w.grownBy (w.alloc o) row := World.grownBy_alloc w o row

/-- A new object, in a block that wasn't there. -/
theorem Sim.newAt {X : Cx} {n : Nat} {I : Mem} {μ : Locs} {st : St} {a : Act} {w : World} (h : Sim X n I μ st a w) (d : Nat) (o : Ob) (l : Loc) (ob : Obj) (ho : ObB X I (upd μ d l) (w.alloc ob) d o [w.heap.size])
    (hok : okNew X.E (st.strike d).h o = true) : Sim X n I (upd μ d l) (newOb d o (st.strike d)) a (w.alloc ob) := by
  have h0 : Sim X n I (upd μ d l) (st.strike d) a w := h.strike d fun k hk => upd_ne μ _ hk
  obtain ⟨β, hβ⟩ := h0.h
  have hg := grownBy_alloc' w ob none
  have h2 := h0.grown hg
  have hf := h0.fresh hβ (Nat.le_refl w.heap.size)
  refine ⟨h2.size, h2.defers, h2.t, ?_, h2.im, h2.bw, h2.fr, h2.cx, h2.base⟩
  refine (hβ.grown hg (Aside.none ..)).new (strike_none d st) ho (by simp) (fun b hb => ?_) hok
  simp only [List.mem_singleton] at hb
  subst hb
  exact hf
/-- A new box. -/
theorem Sim.newBox {X : Cx} {n : Nat} {I : Mem} {μ : Locs} {st : St} {a : Act} {w : World} (h : Sim X n I μ st a w) (d : Nat) (cs : List CV) (arr : Array Value) (T : TypeId) (hT : T ≠ X.E.tb)
    (hr : RepCs I μ cs arr.toList) (hk : ∀ v, v ∈ cs → d ∉ v.keys) (hok : okNew X.E (st.strike d).h (.box cs) = true) :
    Sim X n I (upd μ d (.box w.heap.size)) (newOb d (.box cs) (st.strike d)) a (w.alloc (.cells arr T)) := by
  refine h.newAt d _ _ _ ⟨w.heap.size, arr, T, [], rfl, upd_same μ d _, h.bw, heap_alloc_new w _, hT, RepO.of (hr.mono (MemLe.refl I) ?_)⟩ hok
  intro v hv r hr'
  exact upd_ne μ _ fun e => hk v hv (e ▸ hr')

theorem Ob.strike_keys (r : Nat) (o : Ob) : r ∉ (o.map (CV.strike r)).keys ∧ ∀ k, k ∈ (o.map (CV.strike r)).keys → k ∈ o.keys := by
  cases o with
  | box cs =>
    simp only [Ob.map, Ob.keys, List.mem_flatMap, List.mem_map]
    refine ⟨?_, ?_⟩
    · rintro ⟨v, ⟨u, _, rfl⟩, hr⟩
      exact (CV.strike_keys r u).1 hr
    · rintro k ⟨v, ⟨u, hu, rfl⟩, hr⟩
      exact ⟨u, hu, (CV.strike_keys r u).2 k hr⟩
  | deep e es ho =>
    cases ho with
    | none => simp [Ob.map, Ob.keys]
    | some x => exact CV.strike_keys r x.2.2
  | tab kvs ho =>
    cases ho with
    | none => simp [Ob.map, Ob.keys]
    | some x => exact CV.strike_keys r x.2
  | _ => simp [Ob.map, Ob.keys]
/-- The table may say of a key that nothing names what it will. -/
theorem HeapB.elsewhere {X : Cx} {I : Mem} {μ : Locs} {β : Nat → List Nat} {w : World} {h : List (Nat × Ob)} {d : Nat} {l : Loc} (hβ : HeapB X I μ β w h) (hd : look h d = none) (hk : ∀ q o, look h q = some o → d ∉ o.keys) : HeapB X I (upd μ d l) β w h := by
  refine hβ.sub (fun q o ho => ⟨o, ho, ?_, rfl, rfl⟩) (fun _ _ _ _ _ _ _ h => h) (fun _ h => h)
  have hq : q ≠ d := fun e => by rw [e, hd] at ho; cases ho
  have h3 := ObB.conv (J := I) (ν := upd μ d l) (w' := w) (q := q) (f := fun v => v) (MemLe.refl I) rfl rfl (fun _ => rfl) (hβ.ok q o ho) (upd_ne μ _ hq) (fun u hu x hx => hx.mono (MemLe.refl I) fun k hk' => upd_ne μ _ fun e => ?_) (fun _ _ => rfl) (fun _ _ _ _ _ hx => hx)
  · rwa [Ob.map_id] at h3
  · subst e
    exact hk q o ho (refs_keys hu hk')
theorem strike_free {d q : Nat} {st : St} {o : Ob} (h : look (st.strike d).h q = some o) : d ∉ o.keys := by
  rw [look_strike] at h
  by_cases hq : q = d
  · simp [hq] at h
  · rw [if_neg hq] at h
    obtain ⟨o', _, rfl⟩ := Option.map_eq_some_iff.1 h
    exact (Ob.strike_keys d o').1
theorem HeapB.struck {X : Cx} {I : Mem} {μ : Locs} {β : Nat → List Nat} {w : World} {st : St} (h : HeapB X I μ β w st.h) (r : Nat) : HeapB X I μ β w (st.strike r).h := by
  refine h.sub (fun q o ho => ?_) (fun _ _ _ _ _ _ _ h => h) (fun _ h => h)
  rw [look_strike] at ho
  by_cases hq : q = r
  · simp [hq] at ho
  · simp only [hq, if_false] at ho
    obtain ⟨o', h1, rfl⟩ := Option.map_eq_some_iff.1 ho
    exact ⟨o', h1, (h.ok q o' h1).strike hq (fun _ _ => rfl), Ob.map_isBld _ _, Ob.map_isByte _ _ _⟩

/-- A row's object is another one: its slice, its elements; nothing points to it any more. -/
theorem Sim.newRow {X : Cx} {n : Nat} {I : Mem} {μ : Locs} {st : St} {a : Act} {w : World} {β : Nat → List Nat} (h : Sim X n I μ st a w) (d : Nat) (hβ : HeapB X I μ β w (st.strike d).h) (e : TypeId) (es : List PV) (v : Value) (xs : List Value)
    (ho : w.ownsRow X.B e (X.E.sz e) v es.length xs) (hr : RowRep I (X.E.sz e) es xs)
    (hf : ∀ b, v.ownBlock = some b → (∀ r o, look (st.strike d).h r = some o → b ∉ β r) ∧ (∀ p, I b p = none) ∧ (X.S b ∨ X.w1.heap.size ≤ b))
    (hok : okNew X.E (st.strike d).h (.row e es) = true) :
    Sim X n I (upd μ d (.row v (X.E.sz e))) (newOb d (.row e es) (st.strike d)) a w := by
  have h1 : Sim X n I (upd μ d (.row v (X.E.sz e))) (st.strike d) a w := h.strike d fun k hk => upd_ne μ _ hk
  have hβ' : HeapB X I (upd μ d (.row v (X.E.sz e))) β w (st.strike d).h := hβ.elsewhere (strike_none d st) (fun q o ho => strike_free ho)
  refine ⟨h1.size, h1.defers, h1.t, ?_, h1.im, h1.bw, h1.fr, h1.cx, h1.base⟩
  refine hβ'.new (strike_none d st) ⟨v, xs, rfl, upd_same μ d _, ho, hr⟩ ?_ ?_ hok
  · cases v.ownBlock <;> simp
  · intro b hb
    exact hf b (by simpa using hb)
end Go.Dip
end

/- An ideal semantics of the model's code, part 5: what is frozen; operands. -/
section
set_option linter.unusedVariables false
set_option linter.unusedSimpArgs false
namespace Go.Dip

theorem getD_lt {α : Type} {l : List α} {i : Nat} {d : α} (h : i < l.length) : l.getD i d = l[i] := by simp [List.getD_eq_getElem?_getD, List.getElem?_eq_getElem h]
theorem getD_of {α : Type} {l : List α} {i : Nat} {d v : α} (h : l[i]? = some v) : l.getD i d = v := by simp [List.getD_eq_getElem?_getD, h]
theorem agetD {l : Array Value} {i : Nat} : l.getD i undef = l.toList.getD i undef := by
  simp [Array.getD_eq_getD_getElem?, List.getD_eq_getElem?_getD]

/-! ### Freezing -/
def Obj.told : Obj → Nat → Option Value
  | .cells arr _ _, o => match arr[o]? with
    | some v => if v.oneCell' then some v else none
    | none => none
  | .map es clock, o => (mapCells es clock)[o]?
  | _, _ => none
/-- The blocks bs are only read from now on. -/
def freezeI (I : Mem) (w : World) (bs : List Nat) : Mem := fun b o => if b ∈ bs then (match w.heap[b]? with | some ob => Obj.told ob o | none => none) else I b o
theorem freezeI_le {I : Mem} {w : World} {bs : List Nat} (h : ∀ b, b ∈ bs → ∀ p, I b p = none) : MemLe I (freezeI I w bs) := by
  intro b o v hv
  unfold freezeI
  by_cases e : b ∈ bs
  · rw [h b e o] at hv; cases hv
  · simpa [e] using hv
theorem freezeI_at {I : Mem} {w : World} {bs : List Nat} {b : Nat} (h : b ∈ bs) {arr : Array Value} {T : TypeId} {fz : Nat × Nat} (hb : w.heap[b]? = some (.cells arr T fz)) (o : Nat) (v : Value) (ho : arr[o]? = some v) (h1 : v.oneCell' = true) : freezeI I w bs b o = some v := by
  simp [freezeI, h, hb, Obj.told, ho, h1]
theorem freezeI_map {I : Mem} {w : World} {bs : List Nat} {b : Nat} (h : b ∈ bs) {es : Array MapEntry} {clock : Nat} (hb : w.heap[b]? = some (.map es clock)) (o : Nat) : freezeI I w bs b o = (mapCells es clock)[o]? := by
  simp [freezeI, h, hb, Obj.told]

theorem sub_length {α : Type} (es : List α) (lo hi : Int) (h0 : 0 ≤ lo) (h1 : lo ≤ hi) (h2 : hi ≤ es.length) : (sub es lo hi).length = (hi - lo).toNat := by
  simp only [sub, List.length_take, List.length_drop]
  omega
theorem sub_getD {α : Type} (es : List α) (lo hi : Int) (d : α) (i : Nat) (h0 : 0 ≤ lo) (h2 : hi ≤ es.length) (hi' : i < (hi - lo).toNat) : (sub es lo hi).getD i d = es.getD (lo.toNat + i) d := by
  simp only [sub, List.getD_eq_getElem?_getD, List.getElem?_take, List.getElem?_drop, hi', if_true]

/-- What a row's cells are, as what is only read. -/
theorem rep_sub {I J : Mem} {c n g cap cap' o : Nat} {es : List PV} {xs : List Value} {cur : Array Value} (hIJ : MemLe I J) (hr : RowRep I c es xs) (hx : cur.toList.take (n * c) = xs) (hs : cur.size = cap * c) (hn : n ≤ cap)
    (hl : es.length = n) (hJ : ∀ p v, p < n * c → cur[p]? = some v → v.oneCell' = true → J g p = some v) (lo hi : Int) (h0 : 0 ≤ lo) (h1 : lo ≤ hi) (h2 : hi ≤ n) (ho : lo < hi → o = lo.toNat * c) (hc' : (hi - lo).toNat ≤ cap') :
    RepP J (.sl c (sub es lo hi)) (.slice (some ⟨g, o, none⟩) (hi - lo).toNat cap') := by
  have hlen := sub_length es lo hi h0 h1 (by omega)
  have hcell : ∀ i j, i < n → j < c → ∃ v, cur[i * c + j]? = some v ∧ xs.getD (i * c + j) undef = v := by
    intro i j hi hj
    have hb : i * c + j < n * c := by
      have := Nat.mul_le_mul_right c (show i + 1 ≤ n from hi)
      rw [Nat.add_mul] at this
      omega
    have hb2 : i * c + j < cur.size := by
      have := Nat.mul_le_mul_right c hn
      omega
    refine ⟨cur[i * c + j], by simp [hb2], ?_⟩
    rw [← hx, List.getD_eq_getElem?_getD, List.getElem?_take]
    simp [hb, hb2]
  rw [← hlen]
  refine RepP.sl c _ g o cap' (fun i j => xs.getD ((lo.toNat + i) * c + j) undef) (by omega) ?_ ⟨?_, ?_⟩ ?_
  · intro i hi'
    rw [sub_getD es lo hi .any i h0 (by omega) (by omega)]
    exact (hr (lo.toNat + i) (by omega)).1
  · intro i j hi' hj
    have hlt : lo < hi := by omega
    rw [ho hlt]
    obtain ⟨v, hv, he⟩ := hcell (lo.toNat + i) j (by omega) hj
    have e : lo.toNat * c + (i * c + j) = (lo.toNat + i) * c + j := by rw [Nat.add_mul]; omega
    rw [e, he]
    refine hJ _ v ?_ hv (by rw [← he]; exact ((hr (lo.toNat + i) (by omega)).2 j hj).2)
    have := Nat.mul_le_mul_right c (show lo.toNat + i + 1 ≤ n by omega)
    rw [Nat.add_mul] at this
    omega
  · intro i j hi' hj
    exact ((hr (lo.toNat + i) (by omega)).2 j hj).2
  · intro i j hi' hj
    rw [sub_getD es lo hi .any i h0 (by omega) (by omega)]
    exact ((hr (lo.toNat + i) (by omega)).2 j hj).1.mono hIJ

theorem sub_all {α : Type} (es : List α) : sub es 0 (es.length : Int) = es := by simp [sub]

theorem RepC.thaw {X : Cx} {I J : Mem} {μ : Locs} {r c : Nat} {es : List PV} {w : World} {e : TypeId} {v : Value} {xs : List Value} (hIJ : MemLe I J) (hμ : μ r = some (.row v c)) (ho : w.ownsRow X.B e c v es.length xs) (hr : RowRep J c es xs)
    (hJ : ∀ g n cap cur, v = .slice (some ⟨g, 0, none⟩) n cap → w.heap[g]? = some (.cells cur e (0, 0)) → ∀ p v, p < n * c → cur[p]? = some v → v.oneCell' = true → J g p = some v) {x : CV} {y : Value} (h : RepC I μ x y) : RepC J μ (x.thaw r c es) y := by
  have keep : RepC J μ x y := h.mono hIJ fun _ _ => rfl
  have nilc : es.length = 0 → es = [] := List.eq_nil_of_length_eq_zero
  cases x with
  | orow q =>
    simp only [CV.thaw, nbeq]
    by_cases e : q = r
    · subst e
      simp only [decide_true, cond_true]
      obtain ⟨c', h1⟩ := h
      rw [hμ] at h1
      injection h1 with h1
      injection h1 with h1 h2
      subst h1 h2
      rcases ho.2 with ⟨rfl, hn⟩ | ⟨g, cap, cur, rfl, _, hg, hnc, _, hs, htake⟩
      · rw [nilc hn]
        exact RepP.nilsl c none
      · have hh := rep_sub (cap' := cap) (o := 0) (MemLe.refl J) hr htake hs hnc rfl (hJ g _ cap cur rfl hg) 0 es.length (by omega) (by omega) (by omega) (fun _ => by simp) (by simpa using hnc)
        rw [sub_all] at hh
        generalize hz : ((es.length : Int) - 0).toNat = z at hh
        have hz' : z = es.length := by omega
        subst hz'
        exact hh
    · simp only [e, decide_false, cond_false]
      exact keep
  | osub q lo hi =>
    simp only [CV.thaw, nbeq]
    by_cases e : q = r
    · subst e
      simp only [decide_true, cond_true]
      obtain ⟨v', c', h1, h0, hle, h2⟩ := h
      rw [hμ] at h1
      injection h1 with h1
      injection h1 with h1 h1'
      subst h1 h1'
      rcases ho.2 with ⟨rfl, hn⟩ | ⟨g, cap, cur, rfl, _, hg, hnc, _, hs, htake⟩
      · rcases h2 with ⟨_, h3, rfl⟩ | ⟨g, n, cap, o, cap', h3, _⟩
        · rw [nilc hn]
          simp only [sub, List.drop_nil, List.take_nil]
          exact RepP.nilsl c none
        · cases h3
      · rcases h2 with ⟨h3, _⟩ | ⟨g', n', cap1, o, cap', h3, hhi, rfl, hoo, hcap⟩
        · cases h3
        · injection h3 with h3 h4 h5
          injection h3 with h3
          injection h3 with h3
          subst h3 h4 h5
          exact rep_sub (MemLe.refl J) hr htake hs hnc rfl (hJ g _ cap cur rfl hg) lo hi h0 hle hhi hoo hcap
    · simp only [e, decide_false, cond_false]
      exact keep
  | ptrE q i off =>
    simp only [CV.thaw, nbeq]
    by_cases e : q = r
    · subst e
      simp only [decide_true, cond_true]
      obtain ⟨g, n, cap, c', h1, h0, hi, rfl⟩ := h
      rw [hμ] at h1
      injection h1 with h1
      injection h1 with h1 h1'
      subst h1 h1'
      rcases ho.2 with ⟨h2, _⟩ | ⟨g', cap', cur, h2, _, hg, hnc, _, hs, htake⟩
      · cases h2
      · injection h2 with h2 h3 h4
        injection h2 with h2
        injection h2 with h2
        subst h2 h3 h4
        have hh := rep_sub (cap' := cap) (o := 0) (MemLe.refl J) hr htake hs hnc rfl (hJ g _ cap cur rfl hg) 0 es.length (by omega) (by omega) (by omega) (fun _ => by simp) (by simpa using hnc)
        rw [sub_all] at hh
        generalize hz : ((es.length : Int) - 0).toNat = z at hh
        have hz' : z = es.length := by omega
        subst hz'
        cases hh with
        | nilsl => simp at hi; omega
        | sl _ _ _ _ _ f hcap hc hI hf => exact ⟨g, 0, f, hI, hc, hf, h0, hi, by simp⟩
    · simp only [e, decide_false, cond_false]
      exact keep
  | _ => exact keep
theorem RepG.thaw {X : Cx} {I J : Mem} {μ : Locs} {r c : Nat} {es : List PV} {w : World} {e : TypeId} {v : Value} {xs : List Value} (hIJ : MemLe I J) (hμ : μ r = some (.row v c)) (ho : w.ownsRow X.B e c v es.length xs) (hr : RowRep J c es xs)
    (hJ : ∀ g n cap cur, v = .slice (some ⟨g, 0, none⟩) n cap → w.heap[g]? = some (.cells cur e (0, 0)) → ∀ p v, p < n * c → cur[p]? = some v → v.oneCell' = true → J g p = some v) {x : GV} {y : Value} (h : RepG I μ x y) : RepG J μ (x.map (CV.thaw r c es)) y := by
  cases x with
  | c x => exact RepC.thaw hIJ hμ ho hr hJ h
  | agg cs =>
    obtain ⟨vs, h1, h2, h3⟩ := h
    refine ⟨vs, h1, by simpa using h2, fun i v hv => ?_⟩
    rw [List.getElem?_map] at hv
    obtain ⟨u, hu, rfl⟩ := Option.map_eq_some_iff.1 hv
    exact ⟨(h3 i u hu).1.thaw hIJ hμ ho hr hJ, (h3 i u hu).2⟩
  | tup cs =>
    obtain ⟨vs, h1, h2, h3⟩ := h
    refine ⟨vs, h1, by simpa using h2, fun i v hv => ?_⟩
    rw [List.getElem?_map] at hv
    obtain ⟨u, hu, rfl⟩ := Option.map_eq_some_iff.1 hv
    exact (h3 i u hu).thaw hIJ hμ ho hr hJ

/-- New memory that is only read is the call's own. -/
def NewI (X : Cx) (I J : Mem) : Prop := MemLe I J ∧ ∀ b o v, J b o = some v → I b o = some v ∨ X.S b ∨ X.w1.heap.size ≤ b
theorem NewI.refl (X : Cx) (I : Mem) : NewI X I I := ⟨MemLe.refl I, fun _ _ _ h => .inl h⟩
theorem NewI.trans {X : Cx} {I J K : Mem} (h : NewI X I J) (k : NewI X J K) : NewI X I K :=
  ⟨h.1.trans k.1, fun b o v hv => by
    rcases k.2 b o v hv with e | e
    · exact h.2 b o v e
    · exact .inr e⟩

theorem mapCells_tup {es : Array MapEntry} {clock : Nat} {v : Value} (h : v ∈ mapCells es clock) : ∃ xs, v = .tuple xs := by
  unfold mapCells at h
  rcases List.mem_append.1 h with h | h
  · obtain ⟨e, _, h⟩ := List.mem_flatMap.1 h
    simp only [List.mem_cons, List.not_mem_nil, or_false] at h
    rcases h with rfl | rfl | rfl <;> exact ⟨_, rfl⟩
  · simp only [List.mem_singleton] at h
    exact ⟨_, h⟩
/-- An object's blocks are only read from now on; what pointed to it is told so. -/
theorem Sim.melt {X : Cx} {n : Nat} {I : Mem} {μ : Locs} {st : St} {a : Act} {w : World} {β : Nat → List Nat} (h : Sim X n I μ st a w) (hβ : HeapB X I μ β w st.h) {r : Nat} {o : Ob} (ho : look st.h r = some o)
    (hbs : ∀ b, b ∈ β r → (∃ arr T fz, w.heap[b]? = some (.cells arr T fz) ∧ T ≠ X.E.tb) ∨ ∃ es clock, w.heap[b]? = some (.map es clock)) {f : CV → CV} (hf : ∀ y, f (.own y) = .own y)
    (hc : ∀ v x, RepC I μ v x → RepC (freezeI I w (β r)) μ (f v) x) : NewI X I (freezeI I w (β r)) ∧ Sim X n (freezeI I w (β r)) μ (St.map f { st with h := drop r st.h }) a w := by
  have hle : MemLe I (freezeI I w (β r)) := freezeI_le fun b hb => hβ.imm r o ho b hb
  have key : ∀ q p, look (St.map f { st with h := drop r st.h }).h q = some p → q ≠ r ∧ ∃ p', look st.h q = some p' ∧ p = p'.map f := by
    intro q p hp
    simp only [St.map, look_map, look_drop] at hp
    by_cases hq : q = r
    · simp [hq] at hp
    · simp only [hq, if_false] at hp
      obtain ⟨o', h1, h2⟩ := Option.map_eq_some_iff.1 hp
      exact ⟨hq, o', h1, h2.symm⟩
  refine ⟨⟨hle, ?_⟩, h.size, h.defers, ?_, ⟨β, hβ.sub (fun q p hp => ?_) ?_ (fun _ h => h)⟩, ?_, h.bw, h.fr, h.cx, h.base⟩
  · intro b p u hu
    by_cases hb : b ∈ β r
    · exact .inr (hβ.own r o ho b hb)
    · simp only [freezeI, hb, if_false] at hu
      exact .inl hu
  · intro i x hx
    simp only [St.map, look_map] at hx
    obtain ⟨u, hu, rfl⟩ := Option.map_eq_some_iff.1 hx
    have := h.t i u hu
    cases u with
    | c v => exact hc v _ this
    | agg cs =>
      obtain ⟨vs, h1, h2, h3⟩ := this
      refine ⟨vs, h1, by simpa using h2, fun i v hv => ?_⟩
      rw [List.getElem?_map] at hv
      obtain ⟨u, hu, rfl⟩ := Option.map_eq_some_iff.1 hv
      exact ⟨hc u _ (h3 i u hu).1, (h3 i u hu).2⟩
    | tup cs =>
      obtain ⟨vs, h1, h2, h3⟩ := this
      refine ⟨vs, h1, by simpa using h2, fun i v hv => ?_⟩
      rw [List.getElem?_map] at hv
      obtain ⟨u, hu, rfl⟩ := Option.map_eq_some_iff.1 hv
      exact hc u _ (h3 i u hu)
  · obtain ⟨hq, p', h1, rfl⟩ := key q p hp
    exact ⟨p', h1, ObB.conv hle rfl rfl hf (hβ.ok q p' h1) rfl (fun v _ x hx => hc v x hx) (fun _ _ => rfl) (fun _ _ _ _ _ hx => hx), Ob.map_isBld _ _, Ob.map_isByte _ _ _⟩
  · intro q p p' hp hp' b hb hI z
    obtain ⟨hq, _⟩ := key q p' hp'
    have hne : b ∉ β r := fun hbr => hβ.apart r q o p ho hp (fun e' => hq e'.symm) b hbr hb
    simp only [freezeI, hne, if_false]
    exact hI z
  · intro b p u hu
    by_cases hb : b ∈ β r
    · rcases hbs b hb with ⟨arr, T, fz, h1, h2⟩ | ⟨es, clock, h1⟩
      · have hu' : Obj.told (.cells arr T fz) p = some u := by simpa [freezeI, hb, h1] using hu
        simp only [Obj.told] at hu'
        split at hu'
        · rename_i v hv
          split at hu'
          · rename_i h3
            injection hu' with hu'
            subst hu'
            exact .inl ⟨h3, arr, T, fz, h1, hv, .inr h2⟩
          · cases hu'
        · cases hu'
      · rw [freezeI_map hb h1] at hu
        refine .inr ⟨?_, es, clock, h1, hu⟩
        obtain ⟨xs, rfl⟩ := mapCells_tup (List.mem_of_getElem? hu)
        rfl
    · simp only [freezeI, hb, if_false] at hu
      exact h.im b p u hu
theorem flatMap_get {α β : Type} {c : Nat} {f : α → List β} : ∀ (l : List α), (∀ x, x ∈ l → (f x).length = c) → ∀ (i j : Nat) (x : α), l[i]? = some x → j < c → (l.flatMap f)[i * c + j]? = (f x)[j]?
  | [], _, i, j, x, h, _ => by simp at h
  | y :: l, hl, 0, j, x, h, hj => by
    simp only [List.getElem?_cons_zero, Option.some.injEq] at h
    subst h
    rw [List.flatMap_cons, List.getElem?_append_left (by rw [hl y (by simp)]; omega), Nat.zero_mul, Nat.zero_add]
  | y :: l, hl, i + 1, j, x, h, hj => by
    have hy := hl y (by simp)
    rw [List.flatMap_cons, List.getElem?_append_right (by rw [hy, Nat.add_mul]; omega)]
    have ih := flatMap_get l (fun x hx => hl x (by simp [hx])) i j x (by simpa using h) hj
    rw [← ih, hy]
    congr 1
    rw [Nat.add_mul]
    omega
theorem flatMap_len {α β : Type} {c : Nat} {f : α → List β} : ∀ (l : List α), (∀ x, x ∈ l → (f x).length = c) → (l.flatMap f).length = l.length * c
  | [], _ => by simp
  | y :: l, hl => by
    rw [List.flatMap_cons, List.length_append, hl y (by simp), flatMap_len l (fun x hx => hl x (by simp [hx])), List.length_cons, Nat.add_mul]
    omega
theorem dcells_len {c : Nat} {es : List PV} {ho : Option (Nat × Nat × CV)} : (dcells c es ho).length = es.length * c := by
  unfold dcells
  rw [flatMap_len (c := c) _ (fun x _ => by simp [delem])]
  simp
theorem dcells_get {c : Nat} {es : List PV} {ho : Option (Nat × Nat × CV)} {i j : Nat} (hi : i < es.length) (hj : j < c) : (dcells c es ho)[i * c + j]? = some (dcell es ho i j) := by
  unfold dcells
  rw [flatMap_get (c := c) _ (fun x _ => by simp [delem]) i j i (by simp [hi]) hj]
  simp [hj, delem]
theorem len3 : ∀ l : List MapEntry, (l.flatMap fun e => [Value.tuple #[e.key], Value.tuple #[e.val], Value.tuple #[.int .i64 e.born]]).length = 3 * l.length
  | [] => rfl
  | e :: l => by rw [List.flatMap_cons, List.length_append, len3 l]; simp only [List.length_cons, List.length_nil]; omega
theorem mapCells_get {es : Array MapEntry} {clock i : Nat} {e : MapEntry} (h : es[i]? = some e) : (mapCells es clock)[3 * i]? = some (.tuple #[e.key]) ∧ (mapCells es clock)[3 * i + 1]? = some (.tuple #[e.val]) ∧ (mapCells es clock)[3 * i + 2]? = some (.tuple #[.int .i64 e.born]) := by
  have hl : es.toList[i]? = some e := by simpa using h
  have hlen : (es.toList.flatMap fun e => [Value.tuple #[e.key], Value.tuple #[e.val], Value.tuple #[.int .i64 e.born]]).length = 3 * es.size := by rw [len3]; simp
  have hi : i < es.size := (Array.getElem?_eq_some_iff.1 h).1
  have key := fun j hj => flatMap_get (c := 3) (f := fun e : MapEntry => [Value.tuple #[e.key], Value.tuple #[e.val], Value.tuple #[.int .i64 e.born]]) es.toList (fun _ _ => rfl) i j e hl hj
  unfold mapCells
  refine ⟨?_, ?_, ?_⟩
  · rw [List.getElem?_append_left (by omega)]
    have := key 0 (by omega)
    rw [Nat.mul_comm, Nat.add_zero] at this
    rw [this]; rfl
  · rw [List.getElem?_append_left (by omega)]
    have := key 1 (by omega)
    rw [Nat.mul_comm] at this
    rw [this]; rfl
  · rw [List.getElem?_append_left (by omega)]
    have := key 2 (by omega)
    rw [Nat.mul_comm] at this
    rw [this]; rfl
theorem mapCells_end {es : Array MapEntry} {clock : Nat} : (mapCells es clock)[3 * es.size]? = some (.tuple #[.int .i64 clock, .int .i64 clock]) := by
  have hlen : (es.toList.flatMap fun e => [Value.tuple #[e.key], Value.tuple #[e.val], Value.tuple #[.int .i64 e.born]]).length = 3 * es.size := by rw [len3]; simp
  unfold mapCells
  rw [List.getElem?_append_right (by omega), hlen]
  simp
/-- A map's end tells how many entries it has. -/
theorem mapCells_size {es : Array MapEntry} {clock n : Nat} {x y : Value} (h : (mapCells es clock)[3 * n]? = some (.tuple #[x, y])) : es.size = n := by
  rcases Nat.lt_trichotomy n es.size with hlt | heq | hgt
  · have := (mapCells_get (clock := clock) (show es[n]? = some es[n] by simp [hlt])).1
    rw [this] at h
    simp at h
  · exact heq.symm
  · have hl : (mapCells es clock).length = 3 * es.size + 1 := by
      unfold mapCells
      rw [List.length_append, len3]
      simp
    have := (List.getElem?_eq_some_iff.1 h).1
    omega
theorem un1_pcell {E : Env} (v : PV) (j : Nat) : pcell (v.unown E) j = (pcell v j).un1 E := by
  cases v with
  | agg cs =>
    simp only [PV.unown, pcell, PV.cells, List.getD_eq_getElem?_getD, List.getElem?_map]
    cases cs[j]? <;> rfl
  | _ => cases j <;> rfl
theorem unown_cnt {E : Env} {v : PV} (h : v.frz = true) : (v.unown E).cnt = v.cnt := by
  cases v with
  | agg cs => simp [PV.unown, PV.cnt]
  | ebox cs => simp [PV.frz, PV.cells] at h
  | _ => rfl
theorem frz_pcell {v : PV} (h : v.frz = true) (j : Nat) : ∀ cs, pcell v j ≠ .ebox cs := by
  intro cs e
  unfold pcell at e
  rw [List.getD_eq_getElem?_getD] at e
  cases hj : v.cells[j]? with
  | none => rw [hj] at e; cases e
  | some y =>
    rw [hj] at e
    simp only [Option.getD_some] at e
    subst e
    have := (List.all_eq_true.1 h) _ (List.mem_of_getElem? hj)
    cases this
/-- An owned row in a cell, only read from now on. -/
theorem RepE.frozen {X : Cx} {I J : Mem} {w : World} {v : PV} {x : Value} {bs : List Nat} (h : RepE X I w v x bs) (hv : ∀ cs, v ≠ .ebox cs) (hle : MemLe I J) (hJ : ∀ b, b ∈ bs → ∀ arr T, w.heap[b]? = some (.cells arr T (0, 0)) → ∀ p v, arr[p]? = some v → v.oneCell' = true → J b p = some v) : RepP J (v.un1 X.E) x := by
  cases h with
  | pure _ _ h0 h =>
    have : v.un1 X.E = v := by cases v <;> first | rfl | cases h0
    rw [this]
    exact h.mono hle
  | erow e es _ xs he ho hr =>
    show RepP J (.sl (X.E.sz e) es) x
    rcases ho.2 with ⟨rfl, hn⟩ | ⟨g, cap, cur, rfl, _, hg, hnc, _, hs, htake⟩
    · rw [List.eq_nil_of_length_eq_zero hn]
      exact RepP.nilsl _ none
    · have hh := rep_sub (cap' := cap) (o := 0) hle hr htake hs hnc rfl (fun p v _ => hJ g (by simp [Value.ownBlock]) _ _ hg p v) 0 es.length (by omega) (by omega) (by omega) (fun _ => by simp) (by simpa using hnc)
      rw [sub_all] at hh
      generalize hz : ((es.length : Int) - 0).toNat = z at hh
      have hz' : z = es.length := by omega
      subst hz'
      exact hh
  | ebox cs => exact absurd rfl (hv cs)
theorem deep_frozen {X : Cx} {I J : Mem} {μ : Locs} {w : World} {c : Nat} {es : List PV} {xs : List Value} {is : List Nat} (hcnt : ∀ i, i < es.length → (es.getD i .any).cnt = c) (h : RepO X I μ w (dcells c es none) xs is) (hfz : es.all PV.frz = true) (hle : MemLe I J)
    (hJ : ∀ b, b ∈ is → ∀ arr T, w.heap[b]? = some (.cells arr T (0, 0)) → ∀ p v, arr[p]? = some v → v.oneCell' = true → J b p = some v) : RowRep J c (es.map (PV.unown X.E)) xs := by
  obtain ⟨h1, bss, h2, h3, h4⟩ := h
  intro i hi
  have hi' : i < es.length := by simpa using hi
  have e1 : (es.map (PV.unown X.E)).getD i .any = (es.getD i .any).unown X.E := by
    simp [List.getD_eq_getElem?_getD, hi']
  have hf : (es.getD i .any).frz = true := by
    rw [getD_lt hi']
    exact (List.all_eq_true.1 hfz) _ (by simp)
  rw [e1, unown_cnt hf]
  refine ⟨hcnt i hi', fun j hj => ?_⟩
  obtain ⟨k1, k2⟩ := h4 _ _ (dcells_get (ho := none) hi' hj)
  rw [un1_pcell]
  exact ⟨RepE.frozen k1 (frz_pcell hf j) hle fun b hb => hJ b (by rw [h3]; exact mem_flat hb), k2⟩
theorem insK_perm (x : PV × PV) : ∀ l, (insK x l).Perm (x :: l)
  | [] => List.Perm.refl _
  | y :: l => by
    simp only [insK]
    cases keyLt x.1 y.1
    · exact ((insK_perm x l).cons y).trans (List.Perm.swap x y l)
    · exact List.Perm.refl _
theorem sortK_perm : ∀ l, (sortK l).Perm l
  | [] => List.Perm.refl _
  | x :: l => (insK_perm x (sortK l)).trans ((sortK_perm l).cons x)
theorem tab_frozen {X : Cx} {I J : Mem} {μ : Locs} {w : World} {q : Nat} {kvs : List (PV × PV)} {bs : List Nat} {y : Value} (h : ObB X I μ w q (.tab kvs none) bs) (hy : RepC I μ (.omap q) y) (hfz : (kvs.all fun x => PV.frz x.2) = true) (hle : MemLe I J)
    (hJ : ∀ b, b ∈ bs → (∀ arr T, w.heap[b]? = some (.cells arr T (0, 0)) → ∀ p v, arr[p]? = some v → v.oneCell' = true → J b p = some v) ∧ ∀ es clock, w.heap[b]? = some (.map es clock) → ∀ p, J b p = (mapCells es clock)[p]?) : RepC J μ (.p (.mp (sortK (kvs.map fun x => (x.1, PV.un1 X.E x.2))))) y := by
  obtain ⟨b, es, is, hbs, h1, h2, h3, h4, h7, h9, h10⟩ := h
  obtain ⟨b', k1, rfl⟩ := hy
  rw [h1] at k1
  injection k1 with k1
  injection k1 with k1
  subst k1
  have hJb := (hJ b (by simp [hbs])).2 es es.size h3
  have hes : ∀ i, i < kvs.length → ∃ e, es[i]? = some e := fun i hi => ⟨es[i], by simp [show i < es.size by omega]⟩
  show RepP J (.mp _) (.map (some b))
  refine RepP.mp _ (kvs.map fun x => (x.1, PV.un1 X.E x.2)) b es.size (fun i => ((es[i]?).map MapEntry.key).getD undef) (fun i => ((es[i]?).map MapEntry.val).getD undef) (fun i => ((es[i]?).map MapEntry.born).getD 0) (sortK_perm _).symm ?_ ?_ ?_
  · rw [List.length_map]
    refine ⟨fun i hi => ?_, fun i hi => ?_, fun i hi => ?_, ?_, fun i hi => ?_, fun i j hi hj hb => ?_⟩
    · obtain ⟨e, he⟩ := hes i hi
      rw [hJb, (mapCells_get he).1, he]; rfl
    · obtain ⟨e, he⟩ := hes i hi
      rw [hJb, (mapCells_get he).2.1, he]; rfl
    · obtain ⟨e, he⟩ := hes i hi
      rw [hJb, (mapCells_get he).2.2, he]; rfl
    · rw [hJb, h7, mapCells_end]
    · obtain ⟨e, he⟩ := hes i hi
      simp only [he, Option.map_some, Option.getD_some]
      rw [(h4 i e he).1]
      omega
    · obtain ⟨e, he⟩ := hes i hi
      obtain ⟨e', he'⟩ := hes j hj
      simp only [he, he', Option.map_some, Option.getD_some] at hb
      rw [(h4 i e he).1, (h4 j e' he').1] at hb
      exact hb
  · intro i hi
    have hi' : i < kvs.length := by simpa using hi
    obtain ⟨e, he⟩ := hes i hi'
    simp only [he, Option.map_some, Option.getD_some]
    have : kfst (kvs.map fun x => (x.1, PV.un1 X.E x.2)) i = kfst kvs i := by
      simp [kfst, List.getD_eq_getElem?_getD, hi']
    rw [this]
    exact (h4 i e he).2.2.mono hle
  · intro i hi
    have hi' : i < kvs.length := by simpa using hi
    obtain ⟨e, he⟩ := hes i hi'
    simp only [he, Option.map_some, Option.getD_some]
    have hsnd : ksnd (kvs.map fun x => (x.1, PV.un1 X.E x.2)) i = PV.un1 X.E (ksnd kvs i) := by
      simp [ksnd, List.getD_eq_getElem?_getD, hi']
    rw [hsnd]
    obtain ⟨m1, bss, m2, m3, m4⟩ := h10
    have hci : (mcells kvs none)[i]? = some (.own (ksnd kvs i)) := by
      simp [mcells, mcell, ksnd, List.getD_eq_getElem?_getD, hi']
    obtain ⟨n1, n2⟩ := m4 i _ hci
    have hval : (es.toList.map fun e => e.val).getD i undef = e.val := by
      simp [List.getD_eq_getElem?_getD, he]
    rw [hval] at n1
    have hf : (ksnd kvs i).frz = true := by
      have hm : kvs[i] ∈ kvs := by simp
      have := (List.all_eq_true.1 hfz) _ hm
      simpa [ksnd, List.getD_eq_getElem?_getD, hi'] using this
    have hnb : ∀ cs, ksnd kvs i ≠ .ebox cs := by
      intro cs e1
      rw [e1] at hf
      simp [PV.frz, PV.cells] at hf
    exact RepE.frozen (J := J) n1 hnb hle fun c hc => (hJ c (by rw [hbs, m3]; simp [mem_flat hc])).1
theorem thaw_own (r c : Nat) (es : List PV) (y : PV) : CV.thaw r c es (.own y) = .own y := rfl
theorem Sim.freeze {X : Cx} {n : Nat} {I : Mem} {μ : Locs} {st : St} {a : Act} {w : World} (h : Sim X n I μ st a w) (r : Nat) : ∃ J, NewI X I J ∧ Sim X n J μ (st.freeze X.E r) a w := by
  have stay : ∃ J, NewI X I J ∧ Sim X n J μ st a w := ⟨I, NewI.refl X I, h⟩
  unfold St.freeze
  cases ho : look st.h r with
  | none => exact stay
  | some o =>
    cases o with
    | row e es =>
      simp only [nbeq]
      by_cases he : e = X.E.tb
      · simp only [he, decide_true, cond_true]
        exact stay
      · simp only [he, decide_false, cond_false]
        obtain ⟨β, hβ⟩ := h.h
        obtain ⟨v, xs, hbs, hμ, hown, hrep⟩ := hβ.ok r _ ho
        have hle : MemLe I (freezeI I w (β r)) := freezeI_le fun b hb => hβ.imm r _ ho b hb
        refine ⟨_, h.melt hβ ho ?_ (thaw_own r _ es) fun x y hx => hx.thaw hle hμ hown (hrep.mono hle) ?_⟩
        · intro b hb
          rw [hbs] at hb
          rcases hown.2 with ⟨e1, _⟩ | ⟨g, cap, cur, rfl, _, hg, _⟩
          · rw [e1] at hb; simp [Value.ownBlock] at hb
          · simp [Value.ownBlock] at hb
            subst hb
            exact .inl ⟨_, _, _, hg, he⟩
        · intro g n cap cur hv hg p v' _
          exact freezeI_at (by rw [hbs, hv]; simp [Value.ownBlock]) hg p v'
    | deep e es hole =>
      cases hole with
      | some x => exact stay
      | none =>
        simp only
        cases hfz : es.all PV.frz
        · simp only [cond_false]; exact stay
        · simp only [cond_true]
          obtain ⟨β, hβ⟩ := h.h
          obtain ⟨v, xs, is, hbs, hμ, he, hown, hcnt, hrep⟩ := hβ.ok r _ ho
          have hle : MemLe I (freezeI I w (β r)) := freezeI_le fun b hb => hβ.imm r _ ho b hb
          have hlen : (es.map (PV.unown X.E)).length = es.length := List.length_map _
          refine ⟨_, h.melt hβ ho ?_ (thaw_own r _ _) fun x y hx => hx.thaw (xs := xs) hle hμ (by rw [hlen]; exact hown) (deep_frozen hcnt hrep hfz hle fun b hb arr T hb2 p v => freezeI_at (by rw [hbs]; simp [hb]) hb2 p v) ?_⟩
          · intro b hb
            rw [hbs] at hb
            rcases List.mem_append.1 hb with hb | hb
            · rcases hown.2 with ⟨e1, _⟩ | ⟨g, cap, cur, rfl, _, hg, _⟩
              · rw [e1] at hb; simp [Value.ownBlock] at hb
              · simp [Value.ownBlock] at hb
                subst hb
                exact .inl ⟨_, _, _, hg, he⟩
            · obtain ⟨_, arr, T, h1, h2⟩ := hrep.lt b hb
              exact .inl ⟨arr, T, _, h1, h2⟩
          · intro g n cap cur hv hg p v' _
            exact freezeI_at (by rw [hbs, hv]; simp [Value.ownBlock]) hg p v'
    | tab kvs hole =>
      cases hole with
      | some x => exact stay
      | none =>
        simp only
        cases hfz : kvs.all fun x => PV.frz x.2
        · simp only [cond_false]; exact stay
        · simp only [cond_true]
          obtain ⟨β, hβ⟩ := h.h
          have hob := hβ.ok r _ ho
          have hle : MemLe I (freezeI I w (β r)) := freezeI_le fun b hb => hβ.imm r _ ho b hb
          refine ⟨_, h.melt hβ ho ?_ (fun _ => rfl) fun x y hx => ?_⟩
          · obtain ⟨b0, es, is, hbs, h1, h2, h3, h4, h5, h6, h10⟩ := hob
            intro b hb
            rw [hbs] at hb
            rcases List.mem_cons.1 hb with rfl | hb
            · exact .inr ⟨_, _, h3⟩
            · obtain ⟨_, arr, T, h1, h2⟩ := h10.lt b hb
              exact .inl ⟨arr, T, _, h1, h2⟩
          · cases x with
            | omap q =>
              simp only [CV.thawM, nbeq]
              by_cases eq : q = r
              · subst eq
                simp only [decide_true, cond_true]
                exact tab_frozen hob hx hfz hle fun b hb => ⟨fun arr T hb2 p v => freezeI_at hb hb2 p v, fun es clock hb2 p => freezeI_map hb hb2 p⟩
              · simp only [eq, decide_false, cond_false]
                exact hx.mono hle fun _ _ => rfl
            | _ => exact hx.mono hle fun _ _ => rfl
    | _ => exact stay
theorem Sim.freezeAll {X : Cx} {n : Nat} {μ : Locs} {a : Act} {w : World} (rs : List Nat) : ∀ {I : Mem} {st : St}, Sim X n I μ st a w → ∃ J, NewI X I J ∧ Sim X n J μ (st.freezeAll X.E rs) a w := by
  induction rs with
  | nil => intro I st h; exact ⟨I, NewI.refl X I, h⟩
  | cons r rs ih =>
    intro I st h
    obtain ⟨J, hJ, h1⟩ := h.freeze r
    obtain ⟨K, hK, h2⟩ := ih h1
    exact ⟨K, hJ.trans hK, h2⟩

/-! ### Operands -/
theorem Sim.get {X : Cx} {n : Nat} {I : Mem} {μ : Locs} {st : St} {a : Act} {w : World} (h : Sim X n I μ st a w) (i : Nat) : RepG I μ (st.get i) (a.tmps.getD i undef) := by
  unfold St.get
  cases hl : look st.t i with
  | none => exact RepG.any _ _ _
  | some v => exact h.t i v hl
theorem rep_const (I : Mem) (μ : Locs) (v : Value) : RepG I μ (ofConst v) v := by
  cases v with
  | bool b => exact RepP.bool b
  | int k n => exact RepP.int k n
  | string s => exact RepP.str s.data.toList
  | pointer a => cases a <;> first | exact RepP.nilp | exact RepG.any _ _ _
  | nilIface => exact RepP.nilif
  | _ => exact RepG.any _ _ _
theorem Sim.ev {X : Cx} {n : Nat} {I : Mem} {μ : Locs} {st : St} {a : Act} {w : World} (h : Sim X n I μ st a w) (x : Operand) : RepG I μ (st.ev x) (a.eval x) := by
  cases x with
  | tmp t => exact h.get t
  | const v => exact rep_const I μ v
  | global g => rfl
  | func f =>
    show RepG I μ (bif bnd f then .any else .c (.fn f [])) _
    cases hb : bnd f
    · exact ⟨#[], #[], by simp [unb, hb, Act.eval], fun _ => rfl, rfl, fun j r hj => by simp at hj⟩
    · exact RepG.any _ _ _
theorem Sim.evT {X : Cx} {n : Nat} {I : Mem} {μ : Locs} {st : St} {a : Act} {w : World} (h : Sim X n I μ st a w) (t : TypeId) (x : Operand) : RepG I μ (st.evT X.E t x) (a.eval x) := by
  unfold St.evT
  split
  · rfl
  · exact h.ev x

theorem pures_rep {I : Mem} {μ : Locs} : ∀ {cs : List CV} {ps : List PV} {vs : List Value}, pures cs = some ps → cs.length = vs.length → (∀ (i : Nat) v, cs[i]? = some v → RepC I μ v (vs.getD i undef)) →
    ps.length = vs.length ∧ ∀ i, i < ps.length → RepP I (ps.getD i .any) (vs.getD i undef)
  | [], ps, vs, hp, hl, hr => by
    simp only [pures, Option.some.injEq] at hp
    subst hp
    exact ⟨hl, fun i hi => by simp at hi⟩
  | v :: cs, ps, [], hp, hl, hr => by simp at hl
  | v :: cs, ps, x :: vs, hp, hl, hr => by
    simp only [pures] at hp
    cases h1 : v.pure? with
    | none => simp [h1] at hp
    | some y =>
      cases h2 : pures cs with
      | none => simp [h1, h2] at hp
      | some ys =>
        simp only [h1, h2, Option.some.injEq] at hp
        subst hp
        obtain ⟨k1, k2⟩ := pures_rep (vs := vs) h2 (by simpa using hl) (fun i u hu => by simpa using hr (i + 1) u (by simpa using hu))
        refine ⟨by simp [k1], fun i hi => ?_⟩
        cases i with
        | zero =>
          have h0 := hr 0 v (by simp)
          simp only [List.getD_cons_zero] at h0 ⊢
          cases v with
          | p z => simp only [CV.pure?, Option.some.injEq] at h1; subst h1; exact h0
          | nils c => simp only [CV.pure?, Option.some.injEq] at h1; subst h1; rw [show x = .slice none 0 0 from h0]; exact RepP.nilsl c none
          | fn f rs =>
            cases rs with
            | nil =>
              simp only [CV.pure?, Option.some.injEq] at h1
              subst h1
              obtain ⟨fs', vs', e1, _, e2, _⟩ := h0
              simp only [Array.size_append, List.length_nil] at e2
              have q1 : fs' = #[] := Array.eq_empty_of_size_eq_zero (by omega)
              have q2 : vs' = #[] := Array.eq_empty_of_size_eq_zero (by omega)
              subst q1 q2
              rw [e1]
              exact RepP.fn f
            | cons r rs => simp [CV.pure?] at h1
          | _ => simp [CV.pure?] at h1
        | succ i => simpa using k2 i (by simpa using hi)
theorem pureC_rep {I : Mem} {μ : Locs} {v : CV} {x : Value} {y : PV} (h : v.pure? = some y) (hr : RepC I μ v x) : RepP I y x := by
  obtain ⟨_, k⟩ := pures_rep (I := I) (μ := μ) (cs := [v]) (ps := [y]) (vs := [x]) (by simp [pures, h]) rfl (fun i u hu => by
    cases i with
    | zero => simp only [List.length_singleton, Nat.lt_add_one, List.getElem?_cons_zero, Option.some.injEq] at hu; subst hu; simpa using hr
    | succ i => simp at hu)
  simpa using k 0 (by simp)
theorem pure_rep {I : Mem} {μ : Locs} {v : GV} {x : Value} {y : PV} (h : v.pure? = some y) (hr : RepG I μ v x) : RepP I y x := by
  cases v with
  | c v => exact pureC_rep h hr
  | tup cs => simp [GV.pure?] at h
  | agg cs =>
    obtain ⟨vs, rfl, h2, h3⟩ := hr
    simp only [GV.pure?] at h
    obtain ⟨ps, hp, rfl⟩ := Option.map_eq_some_iff.1 h
    obtain ⟨k1, k2⟩ := pures_rep hp h2 (fun i u hu => (h3 i u hu).1)
    refine RepP.agg ps vs (by simpa using k1) (fun i hi => by rw [agetD]; exact k2 i hi) (fun i hi => ?_)
    rw [agetD]
    have hi' : i < cs.length := by omega
    exact (h3 i cs[i] (by simp [hi'])).2

section
variable {R : Type} {r : R}
theorem wP_inv {v : GV} {K : PV → Option R} (h : wP v K = some r) : ∃ x, v = .pv x ∧ K x = some r := by
  unfold wP at h
  split at h
  · exact ⟨_, rfl, h⟩
  · cases h
theorem wInt_inv {k : IntKind} {v : GV} {K : Int → Option R} (h : wInt k v K = some r) : ∃ n, v = .pv (.int k n) ∧ K n = some r := by
  obtain ⟨x, hv, h2⟩ := wP_inv h
  cases x with
  | int k' n =>
    simp only [isInt] at h2
    by_cases e : k' = k
    · subst e
      simp only [decide_true, cond_true] at h2
      exact ⟨n, hv, h2⟩
    · simp [e] at h2
  | _ => simp [isInt] at h2
theorem wStr_inv {v : GV} {K : List UInt8 → Option R} (h : wStr v K = some r) : ∃ s, v = .pv (.str s) ∧ K s = some r := by
  obtain ⟨x, hv, h2⟩ := wP_inv h
  cases x with
  | str s => exact ⟨s, hv, by simpa [isStr, strOf] using h2⟩
  | _ => simp [isStr] at h2
theorem wBool_inv {v : GV} {K : Bool → Option R} (h : wBool v K = some r) : ∃ b, v = .pv (.bool b) ∧ K b = some r := by
  obtain ⟨x, hv, h2⟩ := wP_inv h
  cases x with
  | bool b => exact ⟨b, hv, by simpa [isBool, boolOf] using h2⟩
  | _ => simp [isBool] at h2
/-- A plain value out of an operand: what it leaves. -/
structure PureStep (E : Env) (st st' : St) (x : Operand) (y : PV) : Prop where
  does : ∀ {X : Cx} {n : Nat} {I : Mem} {μ : Locs} {a : Act} {w : World}, X.E = E → Sim X n I μ st a w → ∃ J, NewI X I J ∧ Sim X n J μ st' a w ∧ RepP J y (a.eval x)
theorem wPure_inv {E : Env} {st : St} {t : TypeId} {x : Operand} {K : PV → St → Option R} (h : wPure E st t x K = some r) : ∃ y st', K y st' = some r ∧ PureStep E st st' x y := by
  unfold wPure at h
  simp only at h
  split at h
  · rename_i y hy
    refine ⟨y, _, h, ⟨?_⟩⟩
    rintro X n I μ a w rfl hs
    obtain ⟨J, hJ, h1⟩ := hs.freezeAll (st.evT X.E t x).rows
    exact ⟨J, hJ, h1, pure_rep hy (h1.evT t x)⟩
  · cases h
end
end Go.Dip
end

/- An ideal semantics of the model's code, part 6: types; what an operation does. -/
section
set_option linter.unusedVariables false
set_option linter.unusedSimpArgs false
namespace Go.Dip

def isFlat : TypeDesc → Bool
  | .struct _ => false
  | .array _ _ => false
  | _ => true
/-- A type's zero value, told rightly. -/
def ZeroRep (zs : List CV) (z : Value) : Prop := ∀ I μ, RepCs I μ zs z.cells.toList
structure EnvOk (P : Program) (E : Env) (tB : TypeId) : Prop where
  scalar : ∀ t, isScalar (E.ty t) = true → ∃ d i, P.underlying t = some d ∧ isFlat d = true ∧ P.info? t = some i ∧ i.size = 1 ∧ E.sz t = 1
  struct : ∀ t fs, E.ty t = .struct fs → ∃ Fs : Array Field, ∃ i, P.underlying t = some (.struct Fs) ∧ fs = Fs.toList.map (fun f => (f.offset, f.type)) ∧ P.info? t = some i ∧ i.size = E.sz t
  int : ∀ t k, E.ty t = .int k → P.underlying t = some (.int k)
  bool : ∀ t, E.ty t = .bool → P.underlying t = some .bool
  str : ∀ t, E.ty t = .str → P.underlying t = some .string
  slice : ∀ t e, E.ty t = .slice e → P.underlying t = some (.slice e) ∧ ∃ i z, P.info? e = some i ∧ i.size = E.sz e ∧ i.zero = some z ∧ z.cells.size = E.sz e ∧ 0 < E.sz e ∧ i.bytes ≤ 256 ∧ (E.sz e ≤ 64)
  ptr : ∀ t e, E.ty t = .ptr e → P.underlying t = some (.pointer e)
  iface : ∀ t, E.ty t = .iface → ∃ ms, P.underlying t = some (.interface ms)
  fits : ∀ s fs, E.ty s = .struct fs → ∀ f, f ∈ fs → f.1 + E.sz f.2 ≤ E.sz s ∧ (∃ i, P.info? f.2 = some i ∧ i.size = E.sz f.2) ∧ (isStruct (E.ty f.2) = true ∨ isScalar (E.ty f.2) = true)
  zero : ∀ t, isStruct (E.ty t) = true ∨ isScalar (E.ty t) = true → ∃ i z, P.info? t = some i ∧ i.zero = some z ∧ ZeroRep (zeroOf E 6 t) z ∧ (isStruct (E.ty t) = true → ∃ vs, z = .agg vs) ∧ (zeroOf E 6 t).length = E.sz t ∧ (isScalar (E.ty t) = true → z.cells = #[z])
  eqs : ∀ t fs, E.ty t = .struct fs → (fs.all fun f => isScalar (E.ty f.2)) = true → P.eqGuardType P.depth t = false ∧ P.stoodInHeld t = false ∧ ∀ Fs, P.underlying t = some (.struct Fs) → ∀ f, f ∈ Fs.toList → f.name ≠ "_"
  bld : ∀ t, E.ty t = .bld → t = tB ∧ ∃ i, P.info? t = some i ∧ i.zero = some (.agg #[.pointer none, .slice none 0 0])
  neB : tB ≠ E.tb
  tb : E.ty E.tb = .int .u8
  mapt : ∀ t k e, E.ty t = .mapt k e → P.underlying t = some (.map k e)
  mixed : P.follows .mixedOrders = true

/-! ### Cells of plain values -/
theorem RepP.isAgg {I : Mem} {x : PV} {v : Value} {n : Nat} (h : RepP I x v) (hx : x.isAgg n = true) :
    ∃ vs : Array Value, v = .agg vs ∧ vs.size = n ∧ ∀ j, j < n → RepP I (pcell x j) (vs.toList.getD j undef) ∧ (vs.toList.getD j undef).oneCell' = true := by
  cases h with
  | agg cs vs hl h h1 =>
    have hn : cs.length = n := by simpa [PV.isAgg] using hx
    exact ⟨vs, rfl, by omega, fun j hj => ⟨by rw [← agetD]; exact h j (by omega), by rw [← agetD]; exact h1 j (by omega)⟩⟩
  | _ => simp [PV.isAgg] at hx
theorem RepP.isOne {I : Mem} {x : PV} {v : Value} (h : RepP I x v) (hx : x.isOne = true) : v.oneCell' = true ∧ v.cells = #[v] := by
  cases h <;> first | (simp [PV.isOne] at hx; done) | exact ⟨rfl, rfl⟩
theorem PV.one_cells {x : PV} (hx : x.isOne = true) : x.cells = [x] ∧ x.cnt = 1 := by
  cases x <;> first | (simp [PV.isOne] at hx; done) | exact ⟨rfl, rfl⟩
theorem RepC.one {I : Mem} {μ : Locs} {v : CV} {x : Value} (h : RepC I μ v x) (hv : ∀ y, v = .p y → y.isOne = true) (ho : ∀ r c, μ r = some (.row x c) → x.oneCell' = true ∧ x.cells = #[x]) : x.oneCell' = true ∧ x.cells = #[x] := by
  cases v with
  | p y => exact RepP.isOne h (hv y rfl)
  | nils c => rw [show x = .slice none 0 0 from h]; exact ⟨rfl, rfl⟩
  | orow r => obtain ⟨c, h1⟩ := h; exact ho r c h1
  | osub r a b =>
    obtain ⟨v, c, h1, _, _, h2⟩ := h
    rcases h2 with ⟨_, _, rfl⟩ | ⟨g, n, cap, o, cap', _, _, rfl, _⟩ <;> exact ⟨rfl, rfl⟩
  | ptr r o => rcases h with ⟨b, _, rfl⟩ | ⟨b, _, _, rfl⟩ <;> exact ⟨rfl, rfl⟩
  | ptrE r i o => obtain ⟨g, n, cap, c, _, _, _, rfl⟩ := h; exact ⟨rfl, rfl⟩
  | iptr c es i o => obtain ⟨b, p, f, _, _, _, _, _, rfl⟩ := h; exact ⟨rfl, rfl⟩
  | fn f rs => obtain ⟨fs, vs, rfl, _⟩ := h; exact ⟨rfl, rfl⟩
  | glob g => rw [show x = .pointer (some ⟨g, 0, none⟩) from h]; exact ⟨rfl, rfl⟩
  | own v => exact h.elim
  | omap q => obtain ⟨b, _, rfl⟩ := h; exact ⟨rfl, rfl⟩
/-- The slice of a row is a slice. -/
def RowsOk (μ : Locs) : Prop := ∀ r v c, μ r = some (.row v c) → ∃ A n cap, v = .slice A n cap
theorem RowsOk.one {μ : Locs} (h : RowsOk μ) : ∀ r c x, μ r = some (.row x c) → x.oneCell' = true ∧ x.cells = #[x] := by
  intro r c x hx
  obtain ⟨A, n, cap, rfl⟩ := h r x c hx
  exact ⟨rfl, rfl⟩
theorem RowsOk.upd {μ : Locs} (h : RowsOk μ) (d : Nat) (l : Loc) (hl : ∀ v c, l = .row v c → ∃ A n cap, v = .slice A n cap) : RowsOk (upd μ d l) := by
  intro r v c hr
  unfold Dip.upd at hr
  split at hr
  · injection hr with hr; exact hl v c hr
  · exact h r v c hr

section
variable {R : Type} {r : R} {P : Program} {E : Env} {tB : TypeId}

theorem RepCs_of_isAgg {I : Mem} {μ : Locs} {x : PV} {v : Value} {n : Nat} (h : RepP I x v) (hx : x.isAgg n = true) : ∃ vs, v = .agg vs ∧ RepCs I μ ((List.range n).map fun j => .p (pcell x j)) vs.toList := by
  obtain ⟨vs, h1, h2, h3⟩ := h.isAgg hx
  refine ⟨vs, h1, by simp [h2], fun i u hu => ?_⟩
  have hi : i < n := by
    have := (List.getElem?_eq_some_iff.1 hu).1
    simpa using this
  have e : u = .p (pcell x i) := by
    rw [List.getElem?_map, List.getElem?_range hi] at hu
    simpa using hu.symm
  rw [e]
  exact h3 i hi

theorem wCells_inv (hE : EnvOk P E tB) {t : TypeId} {v : GV} {K : List CV → Option R} (h : wCells E t v K = some r) : ∃ cs, K cs = some r ∧ cs.length = E.sz t ∧ (isStruct (E.ty t) = true ∨ isScalar (E.ty t) = true) ∧ (∀ u, u ∈ cs → ∀ k, k ∈ u.keys → k ∈ v.keys) ∧
    ∀ {I : Mem} {μ : Locs} {x : Value}, RowsOk μ → RepG I μ v x → RepCs I μ cs x.cells.toList ∧ x.cells.size = E.sz t := by
  unfold wCells at h
  cases hs : isStruct (E.ty t)
  · rw [hs] at h
    cases hc : isScalar (E.ty t)
    · simp [hc] at h
    · simp only [hc, cond_false, cond_true] at h
      obtain ⟨_, _, _, _, _, _, hsz⟩ := hE.scalar t hc
      have one : ∀ u : CV, (∀ y, u = .p y → y.isOne = true) → v = .c u → ∀ {I : Mem} {μ : Locs} {x : Value}, RowsOk μ → RepG I μ v x → RepCs I μ [u] x.cells.toList ∧ x.cells.size = E.sz t := by
        rintro u hu rfl I μ x hr hx
        obtain ⟨h1, h2⟩ := RepC.one hx hu (fun q c hq => hr.one q c x hq)
        rw [h2, hsz]
        refine ⟨⟨rfl, fun i z hz => ?_⟩, rfl⟩
        cases i with
        | zero =>
          simp only [List.getElem?_cons_zero, Option.some.injEq] at hz
          subst hz
          exact ⟨hx, h1⟩
        | succ i => simp at hz
      split at h
      · rename_i y
        cases ho : y.isOne
        · simp [ho] at h
        · simp only [ho, cond_true] at h
          exact ⟨[.p y], h, by simp [hsz], .inr rfl, fun u hu k hk => by simp at hu; subst hu; simp [CV.keys] at hk, one _ (fun z hz => by injection hz with hz; subst hz; exact ho) rfl⟩
      · rename_i u hne
        exact ⟨[u], h, by simp [hsz], .inr rfl, fun u' hu k hk => by simp at hu; subst hu; exact hk, one u (fun z hz => absurd (by rw [hz]) (hne z)) rfl⟩
      · cases h
  · rw [hs] at h
    simp only [cond_true] at h
    split at h
    · rename_i y
      cases ho : y.isAgg (E.sz t)
      · simp [ho] at h
      · simp only [ho, cond_true] at h
        refine ⟨_, h, by simp, .inl rfl, fun u hu k hk => ?_, fun {I μ x} hr hx => ?_⟩
        · obtain ⟨j, _, rfl⟩ := List.mem_map.1 hu
          simp [CV.keys] at hk
        · obtain ⟨vs, rfl, h2⟩ := RepCs_of_isAgg (μ := μ) hx ho
          exact ⟨h2, by have := h2.1; simpa [Value.cells] using this.symm⟩
    · rename_i cs
      rw [nbeq] at h
      by_cases hl : cs.length = E.sz t
      · simp only [hl, decide_true, cond_true] at h
        refine ⟨cs, h, hl, .inl rfl, fun u hu k hk => ?_, fun {I μ x} hr hx => ?_⟩
        · simp only [GV.keys, List.mem_flatMap]
          exact ⟨u, hu, hk⟩
        · obtain ⟨vs, rfl, h2⟩ := hx
          exact ⟨h2, by have := h2.1; simp only [Value.cells]; simpa [hl] using this.symm⟩
      · simp [hl] at h
    · cases h
end

/-- What an operation that gives a value does: at the act's own slots, whatever follows. -/
def Upon (P : Program) (o : Oper) (a : Act) (w : World) (Post : Value → World → Prop) : Prop :=
  ∀ (next : Act → World → Prop) (Q : Exit → Act → World → Prop), (∀ v w', Post v w' → next (a.put o.dst v) w') → o.wp P a w next Q
theorem Upon.of_run {P : Program} {o : Oper} {a : Act} {w w' : World} {v : Value} {Post : Value → World → Prop} (h : (execOp a.eval o).run P w = .ok (.value v) w') (hp : Post v w') : Upon P o a w Post := by
  intro next Q hn
  unfold Oper.wp
  rw [h, Oper.upon_value]
  exact hn v w' hp
theorem Upon.mono {P : Program} {o : Oper} {a : Act} {w : World} {Post Post' : Value → World → Prop} (h : Upon P o a w Post) (hp : ∀ v w', Post v w' → Post' v w') : Upon P o a w Post' :=
  fun next Q hn => h next Q fun v w' hv => hn v w' (hp v w' hv)

/-- A variable's block, a builder's stays where it lies; those that a callee was handed are told by these numbers. -/
def Loc.isRow : Loc → Bool
  | .row _ _ => true
  | _ => false
def vlen : Value → Nat
  | .slice _ n _ => n
  | _ => 0
/-- A row that has not grown lies where it lay. -/
def Loc.later : Loc → Loc → Prop
  | .row v c, l => ∃ v', l = .row v' c ∧ vlen v ≤ vlen v' ∧ (vlen v' = vlen v → v' = v)
  | l, l' => l' = l
theorem Loc.later_refl (l : Loc) : l.later l := by
  cases l with
  | row v c => exact ⟨v, rfl, Nat.le_refl _, fun _ => rfl⟩
  | _ => rfl
theorem Loc.later_trans {a b c : Loc} (h : a.later b) (k : b.later c) : a.later c := by
  cases a with
  | row v n =>
    obtain ⟨v', rfl, h1, h2⟩ := h
    obtain ⟨v2, rfl, k1, k2⟩ := k
    refine ⟨v2, rfl, Nat.le_trans h1 k1, fun e => ?_⟩
    have e1 : vlen v' = vlen v := by omega
    rw [k2 (by omega), h2 e1]
  | _ => cases h; exact k
theorem Loc.later_stay {a b : Loc} (h : a.later b) (ha : a.isRow = false) : b = a := by
  cases a with
  | row v n => cases ha
  | _ => exact h
def Keep (μ ν : Locs) : Prop := ∀ q l, 1000 ≤ q → q < 2000 → μ q = some l → ∃ l', ν q = some l' ∧ l.later l'
theorem Keep.refl (μ : Locs) : Keep μ μ := fun _ l _ _ h => ⟨l, h, l.later_refl⟩
theorem Keep.trans {μ ν κ : Locs} (h : Keep μ ν) (k : Keep ν κ) : Keep μ κ := fun q l h1 h2 h3 => by
  obtain ⟨l1, k1, k2⟩ := h q l h1 h2 h3
  obtain ⟨l2, k3, k4⟩ := k q l1 h1 h2 k1
  exact ⟨l2, k3, Loc.later_trans k2 k4⟩
theorem Keep.stay {μ ν : Locs} (h : Keep μ ν) (q : Nat) (l : Loc) (h1 : 1000 ≤ q) (h2 : q < 2000) (h3 : μ q = some l) (h4 : l.isRow = false) : ν q = some l := by
  obtain ⟨l', k1, k2⟩ := h q l h1 h2 h3
  rw [k1, Loc.later_stay k2 h4]
theorem Keep.upd (μ : Locs) {d : Nat} (l : Loc) (hd : d < 1000 ∨ ∃ k, μ d = some k ∧ k.later l) : Keep μ (Dip.upd μ d l) := by
  intro q l' h1 h2 h3
  unfold Dip.upd
  by_cases e : q = d
  · subst e
    rcases hd with hd | ⟨k, hd, hk⟩
    · omega
    · rw [hd] at h3
      injection h3 with h3
      subst h3
      rw [if_pos rfl]
      exact ⟨_, rfl, hk⟩
  · rw [if_neg e]
    exact ⟨_, h3, l'.later_refl⟩

/-- An operation, out of a state: the value, and the state then. -/
def OpDoes (P : Program) (E : Env) (tB : TypeId) (W0 : World) (o : Oper) (st : St) (v : GV) (st' : St) : Prop :=
  ∀ {X : Cx} {n : Nat} {I : Mem} {μ : Locs} {a : Act} {w : World}, X.E = E → X.tB = tB → X.W0 = W0 → RowsOk μ → Sim X n I μ st a w →
    Upon P o a w fun x w' => ∃ J ν, NewI X I J ∧ (RowsOk ν ∧ Keep μ ν) ∧ Sim X n J ν st' a w' ∧ RepG J ν v x
/-- .. that leaves the state alone, and the world. -/
def CalmDoes (P : Program) (E : Env) (tB : TypeId) (o : Oper) (st : St) (v : GV) : Prop :=
  ∀ {X : Cx} {n : Nat} {I : Mem} {μ : Locs} {a : Act} {w : World}, X.E = E → X.tB = tB → RowsOk μ → Sim X n I μ st a w → ∃ x, (execOp a.eval o).run P w = .ok (.value x) w ∧ RepG I μ v x
theorem CalmDoes.op {P : Program} {E : Env} {tB : TypeId} {W0 : World} {o : Oper} {st : St} {v : GV} (h : CalmDoes P E tB o st v) : OpDoes P E tB W0 o st v st := by
  intro X n I μ a w hE hB _ hr hs
  obtain ⟨x, h1, h2⟩ := h hE hB hr hs
  exact Upon.of_run h1 ⟨I, μ, NewI.refl X I, ⟨hr, Keep.refl μ⟩, hs, h2⟩
end Go.Dip
end

/- An ideal semantics of the model's code, part 7: the operations that change nothing. -/
section
set_option linter.unusedVariables false
set_option linter.unusedSimpArgs false
namespace Go.Dip
section
variable {R : Type} {r : R} {P : Program} {E : Env} {tB : TypeId}

theorem add_at (b o j : Nat) : (⟨b, o, none⟩ : Addr).add j = ⟨b, o + j, none⟩ := by unfold Addr.add; split <;> simp_all

theorem run_loadVar_s (hE : EnvOk P E tB) {t : TypeId} (ht : isScalar (E.ty t) = true) {ad : Addr} {v : Value} {w : World} (hc : w.cell? ad = some v) : (loadVar t ad).run P w = .ok v w := by
  obtain ⟨d, i, h1, h2, _⟩ := hE.scalar t ht
  cases d <;> simp [isFlat] at h2 <;> simp [loadVar, Go.isAgg, run_underlying h1, hc]
theorem run_loadVar_a (hE : EnvOk P E tB) {t : TypeId} {fs : List (Nat × TypeId)} (ht : E.ty t = .struct fs) {b o : Nat} {vs : List Value} {w : World} (hl : vs.length = E.sz t) (hc : ∀ (j : Nat) v, vs[j]? = some v → w.cell? ⟨b, o + j, none⟩ = some v) :
    (loadVar t ⟨b, o, none⟩).run P w = .ok (.agg vs.toArray) w := by
  obtain ⟨Fs, i, h1, h2, h3, h4⟩ := hE.struct t fs ht
  have hk := run_loadCells_list (P := P) w ⟨b, o, none⟩ vs (fun j v hv => by rw [add_at]; exact hc j v hv)
  rw [hl] at hk
  simp [loadVar, Go.isAgg, run_underlying h1, sizeOf, typeInfo, h3, h4, hk]
theorem isStruct_inv {k : TK} (h : isStruct k = true) : ∃ fs, k = .struct fs := by cases k <;> simp [isStruct] at h; exact ⟨_, rfl⟩

theorem allP_eq : ∀ {cs : List CV} {ps : List PV}, allP cs = some ps → cs = ps.map .p
  | [], ps, h => by simp [allP] at h; subst h; rfl
  | v :: cs, ps, h => by
    cases v with
    | p x =>
      simp only [allP] at h
      cases hc : allP cs with
      | none => simp [hc] at h
      | some qs =>
        simp only [hc, Option.some.injEq] at h
        subst h
        simp [allP_eq hc]
    | _ => simp [allP] at h
theorem mkAgg_rep {I : Mem} {μ : Locs} {cs : List CV} {vs : Array Value} (h : RepCs I μ cs vs.toList) : RepG I μ (mkAgg cs) (.agg vs) := by
  unfold mkAgg
  cases hp : allP cs with
  | none => exact ⟨vs, rfl, h⟩
  | some ps =>
    have e := allP_eq hp
    subst e
    have hl : ps.length = vs.size := by have := h.1; simpa using this
    refine RepP.agg ps vs hl (fun i hi => ?_) (fun i hi => ?_) <;> rw [agetD]
    · have := (h.2 i (.p ps[i]) (by simp [hi])).1
      rw [getD_lt hi]
      exact this
    · exact (h.2 i (.p ps[i]) (by simp [hi])).2
theorem RepCs.part {I : Mem} {μ : Locs} {cs : List CV} {vs : List Value} (h : RepCs I μ cs vs) (off n : Nat) : RepCs I μ ((cs.drop off).take n) ((vs.drop off).take n) := by
  refine ⟨by simp [h.1], fun i v hv => ?_⟩
  rw [List.getElem?_take] at hv
  split at hv
  · rename_i hi
    rw [List.getElem?_drop] at hv
    have := h.2 (off + i) v hv
    simpa [List.getD_eq_getElem?_getD, List.getElem?_take, List.getElem?_drop, hi] using this
  · cases hv
theorem mkAgg_keys (cs : List CV) : ∀ k, k ∈ (mkAgg cs).keys → ∃ v, v ∈ cs ∧ k ∈ v.keys := by
  intro k hk
  unfold mkAgg at hk
  cases hp : allP cs with
  | none => rw [hp] at hk; simpa [GV.keys, List.mem_flatMap] using hk
  | some ps => rw [hp] at hk; simp [GV.keys, CV.keys] at hk

theorem run_loadAt (t : TypeId) (ad : Addr) (w : World) : (Instr.loadAt t (.pointer (some ad))).run P w = (loadVar t ad).run P w := by simp [Instr.loadAt, Instr.sureAddr]
/-- A row's element read. -/
theorem readP_inv (hE : EnvOk P E tB) {t : TypeId} {c : Nat} {e : PV} {off : Nat} {K : GV → Option R} (h : readP E t c e off K = some r) : ∃ v, K v = some r ∧ v.keys = [] ∧
    ∀ {I : Mem} {w : World} {b o : Nat} {f : Nat → Value}, e.cnt = c → (∀ j, j < c → RepP I (pcell e j) (f j) ∧ (f j).oneCell' = true ∧ w.cell? ⟨b, o + j, none⟩ = some (f j)) → ∀ μ, ∃ x, (loadVar t ⟨b, o + off, none⟩).run P w = .ok x w ∧ RepG I μ v x := by
  unfold readP at h
  cases hs : isStruct (E.ty t)
  · simp only [hs, cond_false] at h
    cases hc : isScalar (E.ty t) && Nat.blt off c
    · simp [hc] at h
    · simp only [hc, cond_true] at h
      simp only [Bool.and_eq_true] at hc
      have hlt : off < c := by simpa [Nat.blt_eq] using hc.2
      refine ⟨_, h, rfl, fun {I w b o f} hcnt hf μ => ?_⟩
      exact ⟨_, run_loadVar_s hE hc.1 (hf off hlt).2.2, (hf off hlt).1⟩
  · simp only [hs, cond_true] at h
    obtain ⟨fs, hfs⟩ := isStruct_inv hs
    cases hb : Nat.ble (off + E.sz t) c
    · simp [hb] at h
    · simp only [hb, cond_true] at h
      have hle : off + E.sz t ≤ c := Nat.le_of_ble_eq_true hb
      refine ⟨_, h, rfl, fun {I w b o f} hcnt hf μ => ?_⟩
      refine ⟨_, run_loadVar_a (vs := (List.range (E.sz t)).map fun j => f (off + j)) hE hfs (by simp) ?_, ?_⟩
      · intro j v hv
        have hj : j < E.sz t := by have := (List.getElem?_eq_some_iff.1 hv).1; simpa using this
        have e : v = f (off + j) := by
          rw [List.getElem?_map, List.getElem?_range hj] at hv
          simpa using hv.symm
        rw [e, ← (hf (off + j) (by omega)).2.2, Nat.add_assoc]
      · refine RepP.agg _ _ (by simp) (fun i hi => ?_) (fun i hi => ?_) <;> simp only [List.length_map, List.length_range] at hi <;> rw [agetD] <;> simp only [List.getD_eq_getElem?_getD, List.getElem?_map, List.getElem?_range hi, Option.map_some, Option.getD_some]
        · exact (hf (off + i) (by omega)).1
        · exact (hf (off + i) (by omega)).2.1

theorem cell_heap {w : World} {b o : Nat} {arr : Array Value} {T : TypeId} {fz : Nat × Nat} {v : Value} (h : w.heap[b]? = some (.cells arr T fz)) (ho : arr[o]? = some v) : w.cell? ⟨b, o, none⟩ = some v := by
  simp [World.cell?, h, ho]
theorem row_cell {w : World} {B e sz g n cap : Nat} {xs : List Value} (h : w.ownsRow B e sz (.slice (some ⟨g, 0, none⟩) n cap) n xs) {p : Nat} (hp : p < n * sz) : w.cell? ⟨g, p, none⟩ = some (xs.getD p undef) := by
  have hl : p < xs.length := by rw [h.1]; exact hp
  have := h.cells (g := g) rfl p xs[p] (by simp [hl])
  rw [add_at, Nat.zero_add] at this
  rw [this, getD_lt hl]

theorem RepO.part {X : Cx} {I : Mem} {μ : Locs} {w : World} {cs : List CV} {vs : List Value} {bs : List Nat} (h : RepO X I μ w cs vs bs) (off n : Nat) : RepCs I μ (((cs.drop off).take n).map CV.seen) ((vs.drop off).take n) := by
  obtain ⟨h1, bss, h2, h3, h4⟩ := h
  refine ⟨by simp [h1], fun i v hv => ?_⟩
  rw [List.getElem?_map] at hv
  obtain ⟨u, hu, rfl⟩ := Option.map_eq_some_iff.1 hv
  rw [List.getElem?_take] at hu
  split at hu
  · rename_i hi
    rw [List.getElem?_drop] at hu
    obtain ⟨k1, k2⟩ := h4 _ u hu
    have e : ((vs.drop off).take n).getD i undef = vs.getD (off + i) undef := by
      simp only [List.getD_eq_getElem?_getD, List.getElem?_take, hi, if_true, List.getElem?_drop]
    rw [e]
    refine ⟨?_, k2⟩
    by_cases ho : u.isOwn = true
    · cases u with
      | own y =>
        exact RepE.seen k1
      | _ => cases ho
    · obtain ⟨k3, _⟩ := (CellO.ref (by simpa using ho)).1 k1
      have : u.seen = u := by cases u <;> first | rfl | exact absurd rfl ho
      rw [this]
      exact k3
  · cases hu
theorem loadC_inv (hE : EnvOk P E tB) {t : TypeId} {cs : List CV} {off : Nat} {K : GV → Option R} (h : loadC E t cs off K = some r) : ∃ v, K v = some r ∧
    ∀ {X : Cx} {I : Mem} {μ : Locs} {w : World} {vs : List Value} {bs : List Nat} {b o : Nat}, RepO X I μ w cs vs bs → (∀ j, j < vs.length → w.cell? ⟨b, o + j, none⟩ = some (vs.getD j undef)) → ∃ y, (loadVar t ⟨b, o + off, none⟩).run P w = .ok y w ∧ RepG I μ v y := by
  unfold loadC at h
  cases hst : isStruct (E.ty t)
  · simp only [hst, cond_false] at h
    cases hsc : isScalar (E.ty t)
    · simp [hsc] at h
    · simp only [hsc, cond_true] at h
      split at h
      · rename_i v hv
        cases ho : isOwned v
        · simp only [ho, cond_false] at h
          refine ⟨_, h, fun {X I μ w vs bs b o} hr hm => ?_⟩
          obtain ⟨h1, bss, h2, h3, h4⟩ := hr
          have hlt : off < vs.length := by rw [← h1]; exact (List.getElem?_eq_some_iff.1 hv).1
          have k1 : RepE X I w v _ _ := (h4 off _ hv).1
          refine ⟨vs.getD off undef, run_loadVar_s hE hsc (hm off hlt), ?_⟩
          exact (k1.plain ho).1
        · simp [ho] at h
      · rename_i v hno hv
        refine ⟨_, h, fun {X I μ w vs bs b o} hr hm => ?_⟩
        obtain ⟨h1, bss, h2, h3, h4⟩ := hr
        have hlt : off < vs.length := by rw [← h1]; exact (List.getElem?_eq_some_iff.1 hv).1
        refine ⟨vs.getD off undef, run_loadVar_s hE hsc (hm off hlt), ?_⟩
        have hn : v.isOwn = false := by cases v <;> first | rfl | exact absurd rfl (hno _)
        exact ((CellO.ref hn).1 (h4 off _ hv).1).1
      · cases h
  · simp only [hst, cond_true] at h
    obtain ⟨fs, hfs⟩ := isStruct_inv hst
    cases hb : Nat.ble (off + E.sz t) cs.length
    · simp [hb] at h
    · simp only [hb, cond_true] at h
      have hle := Nat.le_of_ble_eq_true hb
      refine ⟨_, h, fun {X I μ w vs bs b o} hr hm => ?_⟩
      have h1 := hr.1
      have h6 := hr.part off (E.sz t)
      refine ⟨_, run_loadVar_a (w := w) (b := b) (o := o + off) (vs := (vs.drop off).take (E.sz t)) hE hfs (by rw [List.length_take, List.length_drop, ← h1]; omega) (fun j v hv => ?_), mkAgg_rep (by simpa using h6)⟩
      rw [List.getElem?_take] at hv
      split at hv
      · rw [List.getElem?_drop] at hv
        have hlt : off + j < vs.length := (List.getElem?_eq_some_iff.1 hv).1
        rw [Nat.add_assoc, hm _ hlt, List.getD_eq_getElem?_getD, hv]
        rfl
      · cases hv

theorem delem_rep {X : Cx} {I : Mem} {μ : Locs} {w : World} {c : Nat} {es : List PV} {ho : Option (Nat × Nat × CV)} {xs : List Value} {is : List Nat} (h : RepO X I μ w (dcells c es ho) xs is) {i : Nat} (hi : i < es.length) : ∃ js, (∀ b, b ∈ js → b ∈ is) ∧ RepO X I μ w (delem c es ho i) ((xs.drop (i * c)).take c) js := by
  obtain ⟨h1, bss, h2, h3, h4⟩ := h
  have hlen : (dcells c es ho).length = es.length * c := dcells_len
  have hl : i * c + c ≤ xs.length := by
    rw [← h1, hlen]
    have := Nat.mul_le_mul_right c (show i + 1 ≤ es.length from hi)
    rw [Nat.add_mul] at this
    omega
  refine ⟨((bss.drop (i * c)).take c).flatten, fun b hb => ?_, ?_⟩
  · rw [h3]
    obtain ⟨l, hl, hb⟩ := List.mem_flatten.1 hb
    exact List.mem_flatten.2 ⟨l, List.mem_of_mem_drop (List.mem_of_mem_take hl), hb⟩
  · refine ⟨by simp [delem]; omega, (bss.drop (i * c)).take c, by simp [h2], rfl, fun j v hv => ?_⟩
    have hj : j < c := by
      have := (List.getElem?_eq_some_iff.1 hv).1
      simpa [delem] using this
    have hv' : (dcells c es ho)[i * c + j]? = some v := by
      rw [dcells_get hi hj, ← hv]
      simp [delem, hj]
    have := h4 _ v hv'
    have e1 : ((xs.drop (i * c)).take c).getD j undef = xs.getD (i * c + j) undef := by
      simp only [List.getD_eq_getElem?_getD, List.getElem?_take, hj, if_true, List.getElem?_drop]
    have e2 : ((bss.drop (i * c)).take c).getD j [] = bss.getD (i * c + j) [] := by
      simp only [List.getD_eq_getElem?_getD, List.getElem?_take, hj, if_true, List.getElem?_drop]
    rw [e1, e2]
    exact this
theorem evLoad_inv (hE : EnvOk P E tB) {st : St} {t : TypeId} {ad : GV} {K : GV → Option R} (h : evLoad E st t ad K = some r) : ∃ v, K v = some r ∧
    ∀ {X : Cx} {n : Nat} {I : Mem} {μ : Locs} {a : Act} {w : World} {x : Value}, X.E = E → RowsOk μ → Sim X n I μ st a w → RepG I μ ad x → ∃ y, (Instr.loadAt t x).run P w = .ok y w ∧ RepG I μ v y := by
  unfold evLoad at h
  split at h
  · rename_i q off
    split at h
    · rename_i cs ho
      obtain ⟨v, hK, hr⟩ := loadC_inv hE h
      refine ⟨v, hK, fun {X n I μ a w x} _ _ hs hx => ?_⟩
      obtain ⟨bs, b, arr, T, is, _, h1, _, h3, _, h5⟩ := hs.h.ok q _ ho
      have hx' : x = .pointer (some ⟨b, off, none⟩) := by
        rcases hx with ⟨b', h6, rfl⟩ | ⟨b', h6, _⟩
        · rw [h1] at h6; injection h6 with h6; injection h6 with h6; subst h6; rfl
        · rw [h1] at h6
          rcases h6 with ⟨_, h6⟩ | h6 <;> (injection h6 with h6; cases h6)
      subst hx'
      obtain ⟨y, k1, k2⟩ := hr (b := b) (o := 0) h5 (fun j hj => by
        rw [Nat.zero_add]
        exact cell_heap h3 (by rw [getD_lt hj]; simp))
      rw [Nat.zero_add] at k1
      exact ⟨y, (run_loadAt t _ w).trans k1, k2⟩
    · cases h
  · rename_i q i off
    split at h
    · rename_i e es ho
      obtain ⟨v, hK, hkeys, hr⟩ := readP_inv hE h
      refine ⟨v, hK, fun {X n I μ a w x} hX _ hs hx => ?_⟩
      subst hX
      obtain ⟨bs, v', xs, _, h1, h2, h3⟩ := hs.h.ok q _ ho
      obtain ⟨g, m, cap, c, h4, h0, hi, rfl⟩ := hx
      rw [h1] at h4
      injection h4 with h4
      injection h4 with h4 h4'
      subst h4 h4'
      have hm : es.length = m := by
        rcases h2.2 with ⟨hh, _⟩ | ⟨g', cap', cur, hh, _⟩
        · cases hh
        · injection hh with _ hh _; exact hh.symm
      subst hm
      have hit : i.toNat < es.length := by omega
      have hrow := h3 i.toNat hit
      obtain ⟨y, hy1, hy2⟩ := hr (w := w) (b := g) (o := i.toNat * X.E.sz e) (f := fun j => xs.getD (i.toNat * X.E.sz e + j) undef) hrow.1 (fun j hj => ⟨(hrow.2 j hj).1, (hrow.2 j hj).2, row_cell h2 (by
        have := Nat.mul_le_mul_right (X.E.sz e) (show i.toNat + 1 ≤ es.length by omega)
        rw [Nat.add_mul] at this
        omega)⟩) μ
      exact ⟨y, (run_loadAt t _ w).trans hy1, hy2⟩
    · rename_i e es hole ho
      obtain ⟨v, hK, hr⟩ := loadC_inv hE h
      refine ⟨v, hK, fun {X n I μ a w x} hX _ hs hx => ?_⟩
      subst hX
      obtain ⟨bs, v', xs, is, _, h1, _, h2, _, h5⟩ := hs.h.ok q _ ho
      obtain ⟨g, m, cap, c, h4, h0, hi, rfl⟩ := hx
      rw [h1] at h4
      injection h4 with h4
      injection h4 with h4 h4'
      subst h4 h4'
      have hm : es.length = m := by
        rcases h2.2 with ⟨hh, _⟩ | ⟨g', cap', cur, hh, _⟩
        · cases hh
        · injection hh with _ hh _; exact hh.symm
      subst hm
      have hit : i.toNat < es.length := by omega
      obtain ⟨js, _, h6⟩ := delem_rep h5 hit
      obtain ⟨y, k1, k2⟩ := hr (b := g) (o := i.toNat * X.E.sz e) h6 (fun j hj => by
        have hj' : j < X.E.sz e := by simp at hj; omega
        have e1 : ((xs.drop (i.toNat * X.E.sz e)).take (X.E.sz e)).getD j undef = xs.getD (i.toNat * X.E.sz e + j) undef := by
          simp only [List.getD_eq_getElem?_getD, List.getElem?_take, hj', if_true, List.getElem?_drop]
        rw [e1]
        exact row_cell h2 (by
          have := Nat.mul_le_mul_right (X.E.sz e) (show i.toNat + 1 ≤ es.length by omega)
          rw [Nat.add_mul] at this
          omega))
      exact ⟨y, (run_loadAt t _ w).trans k1, k2⟩
    · cases h
  · rename_i c es i off
    obtain ⟨v, hK, hkeys, hr⟩ := readP_inv hE h
    refine ⟨v, hK, fun {X n I μ a w x} hX _ hs hx => ?_⟩
    obtain ⟨b, o, f, h1, h2, h3, h0, hi, rfl⟩ := hx
    have hit : i.toNat < es.length := by omega
    obtain ⟨y, hy1, hy2⟩ := hr (w := w) (b := b) (o := o + i.toNat * c) (f := fun j => f i.toNat j) (h2 i.toNat hit) (fun j hj => by
      refine ⟨h3 i.toNat j hit hj, h1.h1 i.toNat j hit hj, ?_⟩
      obtain ⟨arr, T, fz, k1, k2, _⟩ := hs.im.cell (h1.hI i.toNat j hit hj) (h1.h1 i.toNat j hit hj)
      rw [Nat.add_assoc]
      exact cell_heap k1 k2) μ
    rw [Nat.add_assoc] at hy1
    exact ⟨y, (run_loadAt t _ w).trans hy1, hy2⟩
  · cases h

/-! ### Arithmetic and comparisons -/
theorem run_cmpI {op : BinOp} {a b : Int} {z : Bool} {w : World} (h : cmpI op a b = some z) : (Op.intCmp op a b).run P w = .ok (.bool z) w := by
  cases op <;> simp only [cmpI, Option.some.injEq] at h <;> first
    | (subst h; rfl)
    | cases h
theorem eqGuard_int (op : BinOp) (t : TypeId) (x y : Operand) (k k' : IntKind) (a b : Int) (w : World) : (eqGuard op t x y (.int k a) (.int k' b)).run P w = .ok () w := by
  cases op <;> simp [eqGuard]
theorem eqGuard_str (op : BinOp) (t : TypeId) (x y : Operand) (a b : ByteArray) (w : World) : (eqGuard op t x y (.string a) (.string b)).run P w = .ok () w := by
  cases op <;> simp [eqGuard]
theorem eqGuard_bool (op : BinOp) (t : TypeId) (x y : Operand) (a b : Bool) (w : World) : (eqGuard op t x y (.bool a) (.bool b)).run P w = .ok () w := by
  cases op <;> simp [eqGuard]
end
end Go.Dip
end

/- An ideal semantics of the model's code, part 8: operators, conversions, cuts, addresses. -/
section
set_option linter.unusedVariables false
set_option linter.unusedSimpArgs false
namespace Go.Dip
section
variable {R : Type} {r : R} {P : Program} {E : Env} {tB : TypeId}

theorem rep_int {I : Mem} {μ : Locs} {k : IntKind} {n : Int} {x : Value} (h : RepG I μ (.pv (.int k n)) x) : x = .int k n := by
  have h' : RepP I (.int k n) x := h
  cases h'; rfl
theorem rep_str {I : Mem} {μ : Locs} {s : List UInt8} {x : Value} (h : RepG I μ (.pv (.str s)) x) : x = .string ⟨s.toArray⟩ := by
  have h' : RepP I (.str s) x := h
  cases h'; rfl
theorem rep_bool {I : Mem} {μ : Locs} {b : Bool} {x : Value} (h : RepG I μ (.pv (.bool b)) x) : x = .bool b := by
  have h' : RepP I (.bool b) x := h
  cases h'; rfl

theorem run_arI {op : BinOp} {k : IntKind} {a b z : Int} {w : World} (h : arI op k a b = some z) : (binOp op 0 (.int k a) (.int k b)).run P w = .ok (.int k z) w ∧ ∀ t, binOp op t (.int k a) (.int k b) = binOp op 0 (.int k a) (.int k b) := by
  cases op <;> simp only [arI, Option.some.injEq] at h <;> first
    | (subst h; exact ⟨by simp [binOp, Op.intArith, Op.intBits], fun t => rfl⟩)
    | cases h

theorem wBool?_inv {b : Option Bool} {K : GV → Option R} (h : wBool? b K = some r) : ∃ z, b = some z ∧ K (.pv (.bool z)) = some r := by
  cases b with
  | none => simp [wBool?] at h
  | some z => exact ⟨z, rfl, h⟩
theorem bed {α : Type} [BEq α] [LawfulBEq α] [DecidableEq α] (a b : α) : (a == b) = decide (a = b) := by
  by_cases h : a = b <;> simp [h]
theorem run_cmpS {op : BinOp} {a b : List UInt8} {z : Bool} {w : World} (h : cmpS op a b = some z) : (Op.stringOp op ⟨a.toArray⟩ ⟨b.toArray⟩).run P w = .ok (.bool z) w := by
  cases op <;> simp only [cmpS, Option.some.injEq] at h <;> first
    | (subst h; simp only [Op.stringOp, ByteArray.toList_mk, bed]; rfl)
    | cases h
theorem part_run (hE : EnvOk P E tB) {t : TypeId} (ht : isScalar (E.ty t) = true) {vs : Array Value} {off : Nat} (ho : off < vs.size) (w : World) : (part t vs off).run P w = .ok (vs.toList.getD off undef) w := by
  obtain ⟨d, i, h1, h2, _⟩ := hE.scalar t ht
  obtain ⟨v, hv, he⟩ : ∃ v, vs[off]? = some v ∧ vs.toList.getD off undef = v := ⟨vs[off], by simp [ho], by rw [getD_lt (by simpa using ho)]; simp⟩
  rw [he]
  cases d <;> simp [isFlat] at h2 <;> simp [part, Go.isAgg, run_underlying h1, hv]

theorem wEq_inv (hE : EnvOk P E tB) {x y : PV} {n : Nat} : ∀ {Fs : List Field} {K : Bool → Option R}, wEq E (Fs.map fun f => (f.offset, f.type)) x y K = some r → (∀ f, f ∈ Fs → f.name ≠ "_" ∧ f.offset + E.sz f.type ≤ n) →
    ∃ z, K z = some r ∧ ∀ {I : Mem} {xs ys : Array Value} {w : World}, xs.size = n → ys.size = n → (∀ j, j < n → RepP I (pcell x j) (xs.toList.getD j undef)) → (∀ j, j < n → RepP I (pcell y j) (ys.toList.getD j undef)) →
      (Op.eqFields 9999 xs ys Fs).run P w = .ok z w
  | [], K, h, _ => ⟨true, h, fun _ _ _ _ => by simp [Op.eqFields]⟩
  | f :: Fs, K, h, hf => by
    have hf' : ∀ g, g ∈ Fs → g.name ≠ "_" ∧ g.offset + E.sz g.type ≤ n := fun g hg => hf g (by simp [hg])
    obtain ⟨hn, hfit⟩ := hf f (by simp)
    simp only [List.map_cons, wEq] at h
    split at h
    · rename_i hty
      have hsc : isScalar (E.ty f.type) = true := by rw [hty]; rfl
      obtain ⟨_, _, _, _, _, _, hsz⟩ := hE.scalar _ hsc
      obtain ⟨a, ha, h⟩ := wStr_inv h
      obtain ⟨b, hb, h⟩ := wStr_inv h
      obtain ⟨z, hz, hrun⟩ := wEq_inv hE h hf'
      injection ha with ha; injection ha with ha
      injection hb with hb; injection hb with hb
      refine ⟨_, hz, fun {I xs ys w} h1 h2 h3 h4 => ?_⟩
      have k1 := h3 f.offset (by omega)
      have k2 := h4 f.offset (by omega)
      rw [ha] at k1
      rw [hb] at k2
      have e1 := rep_str (μ := fun _ => none) k1
      have e2 := rep_str (μ := fun _ => none) k2
      simp only [Op.eqFields, hn, ne_eq, not_false_eq_true, if_true, Sem.run_bind, part_run hE hsc (show f.offset < xs.size by omega), part_run hE hsc (show f.offset < ys.size by omega), Result.andThen_ok, e1, e2, run_equalIn_string w 9998 f.type _ _ (hE.str _ hty), ByteArray.toList_mk]
      by_cases hab : a = b
      · subst hab
        simp [hrun h1 h2 h3 h4]
      · simp [hab]
    · rename_i k hty
      have hsc : isScalar (E.ty f.type) = true := by rw [hty]; rfl
      obtain ⟨_, _, _, _, _, _, hsz⟩ := hE.scalar _ hsc
      obtain ⟨a, ha, h⟩ := wInt_inv h
      obtain ⟨b, hb, h⟩ := wInt_inv h
      obtain ⟨z, hz, hrun⟩ := wEq_inv hE h hf'
      injection ha with ha; injection ha with ha
      injection hb with hb; injection hb with hb
      refine ⟨_, hz, fun {I xs ys w} h1 h2 h3 h4 => ?_⟩
      have k1 := h3 f.offset (by omega)
      have k2 := h4 f.offset (by omega)
      rw [ha] at k1
      rw [hb] at k2
      have e1 := rep_int (μ := fun _ => none) k1
      have e2 := rep_int (μ := fun _ => none) k2
      simp only [Op.eqFields, hn, ne_eq, not_false_eq_true, if_true, Sem.run_bind, part_run hE hsc (show f.offset < xs.size by omega), part_run hE hsc (show f.offset < ys.size by omega), Result.andThen_ok, e1, e2, run_equalIn_int w 9998 f.type _ _ _ _ (hE.int _ _ hty)]
      by_cases hab : a = b
      · subst hab
        simp [hrun h1 h2 h3 h4]
      · simp [hab]
    · rename_i hty
      have hsc : isScalar (E.ty f.type) = true := by rw [hty]; rfl
      obtain ⟨_, _, _, _, _, _, hsz⟩ := hE.scalar _ hsc
      obtain ⟨a, ha, h⟩ := wBool_inv h
      obtain ⟨b, hb, h⟩ := wBool_inv h
      obtain ⟨z, hz, hrun⟩ := wEq_inv hE h hf'
      injection ha with ha; injection ha with ha
      injection hb with hb; injection hb with hb
      refine ⟨_, hz, fun {I xs ys w} h1 h2 h3 h4 => ?_⟩
      have k1 := h3 f.offset (by omega)
      have k2 := h4 f.offset (by omega)
      rw [ha] at k1
      rw [hb] at k2
      have e1 := rep_bool (μ := fun _ => none) k1
      have e2 := rep_bool (μ := fun _ => none) k2
      simp only [Op.eqFields, hn, ne_eq, not_false_eq_true, if_true, Sem.run_bind, part_run hE hsc (show f.offset < xs.size by omega), part_run hE hsc (show f.offset < ys.size by omega), Result.andThen_ok, e1, e2, run_equalIn_bool' w 9998 f.type _ _ (hE.bool _ hty)]
      cases hab : (a == b)
      · simp
      · simp [hrun h1 h2 h3 h4]
    · cases h

theorem nilP_cases {v : GV} {b : Bool} {I : Mem} {μ : Locs} {x : Value} (h : nilP v = some b) (hx : RepG I μ v x) : ∃ A : Option Addr, x = .pointer A ∧ A.isNone = b := by
  unfold nilP at h
  split at h <;> first | (cases h; done) | (simp only [Option.some.injEq] at h; subst h)
  · have h' : RepP I .nilp x := hx; cases h'; exact ⟨none, rfl, rfl⟩
  · rcases hx with ⟨_, _, rfl⟩ | ⟨_, _, _, _, rfl⟩ <;> exact ⟨some _, rfl, rfl⟩
  · obtain ⟨_, _, _, _, _, _, _, rfl⟩ := hx; exact ⟨some _, rfl, rfl⟩
  · obtain ⟨_, _, _, _, _, _, _, _, rfl⟩ := hx; exact ⟨some _, rfl, rfl⟩
theorem nilI_cases {a : PV} {I : Mem} {μ : Locs} {x : Value} (h : isIf a = true) (hx : RepG I μ (.pv a) x) : (isNif a = true ∧ x = .nilIface) ∨ (isNif a = false ∧ ∃ t y, x = .iface t y) := by
  have h' : RepP I a x := hx
  cases h' with
  | nilif => exact .inl ⟨rfl, rfl⟩
  | someif t y => exact .inr ⟨rfl, t, y, rfl⟩
  | _ => simp [isIf] at h
theorem wNil_inv {op : BinOp} {x y : Option Bool} {K : GV → Option R} (h : wNil op x y K = some r) : ∃ a b z, x = some a ∧ y = some b ∧ (a || b) = true ∧ K (.pv (.bool z)) = some r ∧ ((op = .eql ∧ z = (a && b)) ∨ (op = .neq ∧ z = !(a && b))) := by
  unfold wNil at h
  split at h
  · rename_i a b
    cases hab : a || b
    · simp [hab] at h
    · simp only [hab, cond_true] at h
      split at h
      · exact ⟨a, b, _, rfl, rfl, hab, h, .inl ⟨rfl, rfl⟩⟩
      · exact ⟨a, b, _, rfl, rfl, hab, h, .inr ⟨rfl, rfl⟩⟩
      · cases h
  · cases h
end
end Go.Dip
end

/- An ideal semantics of the model's code, part 9: operators, cuts, addresses: what each does. -/
section
set_option linter.unusedVariables false
set_option linter.unusedSimpArgs false
namespace Go.Dip
section
variable {R : Type} {r : R} {P : Program} {E : Env} {tB : TypeId}

theorem str_append (a b : List UInt8) : (⟨a.toArray⟩ : ByteArray) ++ ⟨b.toArray⟩ = ⟨(a ++ b).toArray⟩ := by
  apply ByteArray.ext
  simp

theorem eqIn_ptr {t e : TypeId} (hu : P.underlying t = some (.pointer e)) (A B : Option Addr) (h : (A.isNone || B.isNone) = true) (d : Nat) (w : World) : (Op.equalIn (d + 1) t (.pointer A) (.pointer B)).run P w = .ok (A.isNone && B.isNone) w := by
  cases A <;> cases B <;> first
    | (simp at h; done)
    | simp [Op.equalIn, run_underlying hu]
theorem eqIn_iface {t : TypeId} {ms} (hu : P.underlying t = some (.interface ms)) (x y : Value) (a b : Bool) (hx : (a = true ∧ x = .nilIface) ∨ (a = false ∧ ∃ t y, x = .iface t y)) (hy : (b = true ∧ y = .nilIface) ∨ (b = false ∧ ∃ t z, y = .iface t z))
    (h : (a || b) = true) (d : Nat) (w : World) : (Op.equalIn (d + 1) t x y).run P w = .ok (a && b) w := by
  rcases hx with ⟨rfl, rfl⟩ | ⟨rfl, t1, y1, rfl⟩ <;> rcases hy with ⟨rfl, rfl⟩ | ⟨rfl, t2, y2, rfl⟩ <;> first
    | (simp at h; done)
    | simp [Op.equalIn, run_underlying hu]
theorem binOp_eq_ptr (t : TypeId) (A B : Option Addr) : binOp .eql t (.pointer A) (.pointer B) = (do pure (.bool (← Op.equalIn (9999 + 1) t (.pointer A) (.pointer B)))) := rfl
theorem binOp_ne_ptr (t : TypeId) (A B : Option Addr) : binOp .neq t (.pointer A) (.pointer B) = (do pure (.bool (!(← Op.equalIn (9999 + 1) t (.pointer A) (.pointer B))))) := rfl
theorem eqGuard_ptr (op : BinOp) (t : TypeId) (x y : Operand) (A B : Option Addr) (w : World) : (eqGuard op t x y (.pointer A) (.pointer B)).run P w = .ok () w := by
  cases op <;> simp [eqGuard]
theorem eqGuard_nil (op : BinOp) (t : TypeId) (x y : Operand) (w : World) (hc : (isConst x || isConst y) = true) : (eqGuard op t x y .nilIface .nilIface).run P w = .ok () w := by
  revert hc
  cases x <;> cases y <;> intro hc <;> first
    | (cases hc; done)
    | (cases op <;> simp [eqGuard])
/-- What an operator gives. -/
def BinDoes (P : Program) (E : Env) (st : St) (op : BinOp) (t : TypeId) (x y : Operand) (v : GV) : Prop :=
  ∀ {X : Cx} {n : Nat} {I : Mem} {μ : Locs} {a : Act} {w : World}, X.E = E → Sim X n I μ st a w →
    ∃ z, (do eqGuard op t x y (a.eval x) (a.eval y); binOp op t (a.eval x) (a.eval y)).run P w = .ok z w ∧ RepG I μ v z

theorem evBin_inv (hE : EnvOk P E tB) {st : St} {op : BinOp} {t : TypeId} {x y : Operand} {K : GV → Option R} (h : evBin E st op t x y K = some r) : ∃ v, K v = some r ∧ BinDoes P E st op t x y v := by
  unfold evBin at h
  split at h
  · rename_i k hty
    obtain ⟨a, ha, h⟩ := wInt_inv h
    obtain ⟨b, hb, h⟩ := wInt_inv h
    have base : ∀ {X : Cx} {n : Nat} {I : Mem} {μ : Locs} {act : Act} {w : World}, X.E = E → Sim X n I μ st act w → act.eval x = .int k a ∧ act.eval y = .int k b := by
      intro X n I μ act w hX hs
      exact ⟨rep_int (ha ▸ hs.ev x), rep_int (hb ▸ hs.ev y)⟩
    split at h
    · by_cases hz : b = 0
      · simp [hz] at h
      · simp only [hz, decide_false, cond_false] at h
        refine ⟨_, h, fun {X n I μ act w} hX hs => ?_⟩
        obtain ⟨e1, e2⟩ := base hX hs
        rw [e1, e2]
        exact ⟨.int k (k.wrap (a.tdiv b)), by simp [eqGuard_int, binOp, Op.intDiv, hz], RepP.int _ _⟩
    · by_cases hz : b = 0
      · simp [hz] at h
      · simp only [hz, decide_false, cond_false] at h
        refine ⟨_, h, fun {X n I μ act w} hX hs => ?_⟩
        obtain ⟨e1, e2⟩ := base hX hs
        rw [e1, e2]
        exact ⟨.int k (a.tmod b), by simp [eqGuard_int, binOp, Op.intDiv, hz], RepP.int _ _⟩
    all_goals first
      | (split at h
         · rename_i z hz
           refine ⟨_, h, fun {X n I μ act w} hX hs => ?_⟩
           obtain ⟨e1, e2⟩ := base hX hs
           rw [e1, e2]
           obtain ⟨k1, k2⟩ := run_arI (w := w) (P := P) hz
           exact ⟨_, by simp only [Sem.run_bind, eqGuard_int, Result.andThen_ok, k2, k1], RepP.int _ _⟩
         · cases h)
      | (obtain ⟨z, hz, h⟩ := wBool?_inv h
         refine ⟨_, h, fun {X n I μ act w} hX hs => ?_⟩
         obtain ⟨e1, e2⟩ := base hX hs
         rw [e1, e2]
         refine ⟨_, ?_, RepP.bool z⟩
         have hc := run_cmpI (P := P) (w := w) hz
         have e : binOp op t (.int k a) (.int k b) = Op.intCmp op a b := by
           cases op <;> first | (simp [cmpI] at hz; done) | simp [binOp]
         rw [e]
         simp only [Sem.run_bind, eqGuard_int, Result.andThen_ok, hc])
  · rename_i hty
    obtain ⟨a, ha, h⟩ := wStr_inv h
    obtain ⟨b, hb, h⟩ := wStr_inv h
    have base : ∀ {X : Cx} {n : Nat} {I : Mem} {μ : Locs} {act : Act} {w : World}, X.E = E → Sim X n I μ st act w → act.eval x = .string ⟨a.toArray⟩ ∧ act.eval y = .string ⟨b.toArray⟩ := by
      intro X n I μ act w hX hs
      exact ⟨rep_str (ha ▸ hs.ev x), rep_str (hb ▸ hs.ev y)⟩
    split at h
    · by_cases hz : a.length + b.length ≤ LIM
      · simp only [hz, decide_true, cond_true] at h
        refine ⟨_, h, fun {X n I μ act w} hX hs => ?_⟩
        obtain ⟨e1, e2⟩ := base hX hs
        rw [e1, e2]
        refine ⟨.string ⟨(a ++ b).toArray⟩, ?_, RepP.str _⟩
        have hsum := run_string_add_sum (P := P) w ⟨a.toArray⟩ ⟨b.toArray⟩ (by
          have : a.length + b.length ≤ 549755813888 := hz
          show a.toArray.size + b.toArray.size ≤ _
          simp only [List.size_toArray]
          omega)
        rw [str_append] at hsum
        simp only [Sem.run_bind, eqGuard_str, Result.andThen_ok]
        exact hsum
      · simp [hz] at h
    · obtain ⟨z, hz, h⟩ := wBool?_inv h
      refine ⟨_, h, fun {X n I μ act w} hX hs => ?_⟩
      obtain ⟨e1, e2⟩ := base hX hs
      rw [e1, e2]
      refine ⟨_, ?_, RepP.bool z⟩
      have hc := run_cmpS (P := P) (w := w) hz
      have e : binOp op t (.string ⟨a.toArray⟩) (.string ⟨b.toArray⟩) = Op.stringOp op ⟨a.toArray⟩ ⟨b.toArray⟩ := by
        cases op <;> first | (simp [cmpS] at hz; done) | simp [binOp]
      rw [e]
      simp only [Sem.run_bind, eqGuard_str, Result.andThen_ok, hc]
  · rename_i hty
    obtain ⟨a, ha, h⟩ := wBool_inv h
    obtain ⟨b, hb, h⟩ := wBool_inv h
    have base : ∀ {X : Cx} {n : Nat} {I : Mem} {μ : Locs} {act : Act} {w : World}, X.E = E → Sim X n I μ st act w → act.eval x = .bool a ∧ act.eval y = .bool b := by
      intro X n I μ act w hX hs
      exact ⟨rep_bool (ha ▸ hs.ev x), rep_bool (hb ▸ hs.ev y)⟩
    have hu := hE.bool t hty
    split at h
    · refine ⟨_, h, fun {X n I μ act w} hX hs => ?_⟩
      obtain ⟨e1, e2⟩ := base hX hs
      rw [e1, e2]
      exact ⟨.bool (a == b), by simp only [Sem.run_bind, eqGuard_bool, Result.andThen_ok, binOp, Op.equal, Op.maxDepth, run_equalIn_bool' w 9999 t a b hu, Sem.run_pure], RepP.bool _⟩
    · refine ⟨_, h, fun {X n I μ act w} hX hs => ?_⟩
      obtain ⟨e1, e2⟩ := base hX hs
      rw [e1, e2]
      exact ⟨.bool (!(a == b)), by simp only [Sem.run_bind, eqGuard_bool, Result.andThen_ok, binOp, Op.equal, Op.maxDepth, run_equalIn_bool' w 9999 t a b hu, Sem.run_pure], RepP.bool _⟩
    · cases h
  · rename_i fs hty
    obtain ⟨a, ha, h⟩ := wP_inv h
    obtain ⟨b, hb, h⟩ := wP_inv h
    cases hag : fs.all (fun f => isScalar (E.ty f.2)) && (a.isAgg (E.sz t) && b.isAgg (E.sz t))
    · simp [hag] at h
    · simp only [hag, cond_true] at h
      rw [Bool.and_eq_true, Bool.and_eq_true] at hag
      obtain ⟨hsca, hag⟩ := hag
      obtain ⟨Fs, inf, hu, hfs, hi, his⟩ := hE.struct t fs hty
      obtain ⟨hg1, hg2, hg3⟩ := hE.eqs t fs hty hsca
      have hfo : P.fieldsOf t = Fs := by simp [Program.fieldsOf, hu]
      have hfit : ∀ f, f ∈ Fs.toList → f.name ≠ "_" ∧ f.offset + E.sz f.type ≤ E.sz t := fun f hf =>
        ⟨hg3 Fs hu f hf, (hE.fits t fs hty (f.offset, f.type) (by rw [hfs]; exact List.mem_map.2 ⟨f, hf, rfl⟩)).1⟩
      have fin : ∀ {K' : Bool → Option R}, wEq E fs a b K' = some r → ∃ z, K' z = some r ∧ ∀ {X : Cx} {n : Nat} {I : Mem} {μ : Locs} {act : Act} {w : World}, X.E = E → Sim X n I μ st act w →
          ∃ xs ys, act.eval x = .agg xs ∧ act.eval y = .agg ys ∧ (Op.equalIn 10000 t (.agg xs) (.agg ys)).run P w = .ok z w := by
        intro K' hK
        rw [hfs] at hK
        obtain ⟨z, hz, hrun⟩ := wEq_inv (n := E.sz t) hE hK hfit
        refine ⟨z, hz, fun {X n I μ act w} hX hs => ?_⟩
        have r1 : RepG I μ (.pv a) (act.eval x) := ha ▸ hs.ev x
        have r2 : RepG I μ (.pv b) (act.eval y) := hb ▸ hs.ev y
        obtain ⟨xs, e1, n1, c1⟩ := RepP.isAgg r1 hag.1
        obtain ⟨ys, e2, n2, c2⟩ := RepP.isAgg r2 hag.2
        refine ⟨xs, ys, e1, e2, ?_⟩
        rw [run_equalIn_struct w 9999 t xs ys (by rw [hfo]; exact hu) hg2, hfo]
        exact hrun n1 n2 (fun j hj => (c1 j hj).1) (fun j hj => (c2 j hj).1)
      split at h
      · obtain ⟨z, hz, hrun⟩ := fin h
        refine ⟨_, hz, fun {X n I μ act w} hX hs => ?_⟩
        obtain ⟨xs, ys, e1, e2, e3⟩ := hrun hX hs
        rw [e1, e2]
        exact ⟨.bool z, by simp only [Sem.run_bind, run_eqGuard_agg w _ t x y xs ys hg1, Result.andThen_ok, run_eql_struct, e3], RepP.bool _⟩
      · obtain ⟨z, hz, hrun⟩ := fin h
        refine ⟨_, hz, fun {X n I μ act w} hX hs => ?_⟩
        obtain ⟨xs, ys, e1, e2, e3⟩ := hrun hX hs
        rw [e1, e2]
        exact ⟨.bool (!z), by simp only [Sem.run_bind, run_eqGuard_agg w _ t x y xs ys hg1, Result.andThen_ok, run_neq_struct, e3], RepP.bool _⟩
      · cases h
  · rename_i e hty
    obtain ⟨a, b, z, ha, hb, hab, hK, hop⟩ := wNil_inv h
    have hu := hE.ptr t e hty
    refine ⟨_, hK, fun {X n I μ act w} hX hs => ?_⟩
    obtain ⟨A, e1, n1⟩ := nilP_cases ha (hs.ev x)
    obtain ⟨B, e2, n2⟩ := nilP_cases hb (hs.ev y)
    rw [e1, e2]
    subst n1 n2
    refine ⟨_, ?_, RepP.bool z⟩
    have he := eqIn_ptr (P := P) hu A B hab 9999 w
    rcases hop with ⟨rfl, rfl⟩ | ⟨rfl, rfl⟩
    · simp only [Sem.run_bind, eqGuard_ptr, Result.andThen_ok, binOp_eq_ptr, he, Sem.run_pure]
    · simp only [Sem.run_bind, eqGuard_ptr, Result.andThen_ok, binOp_ne_ptr, he, Sem.run_pure]
  · rename_i hty
    cases hc : isConst x || isConst y
    · simp [hc] at h
    · simp only [hc, cond_true] at h
      obtain ⟨a, ha, h⟩ := wP_inv h
      obtain ⟨b, hb, h⟩ := wP_inv h
      cases ht : isIf a && (isIf b && (isNif b || isNif a))
      · rw [ht] at h; exact absurd h (by simp)
      simp only [ht, cond_true] at h
      simp only [Bool.and_eq_true, Bool.or_eq_true] at ht
      obtain ⟨ms, hu⟩ := hE.iface t hty
      have hab : (isNif a || isNif b) = true := by rcases ht.2.2 with e | e <;> simp [e]
      obtain ⟨z, hK, hop⟩ : ∃ z, K (.pv (.bool z)) = some r ∧ ((op = .eql ∧ z = (isNif a && isNif b)) ∨ (op = .neq ∧ z = !(isNif a && isNif b))) := by
        split at h
        · exact ⟨_, h, .inl ⟨rfl, rfl⟩⟩
        · exact ⟨_, h, .inr ⟨rfl, rfl⟩⟩
        · cases h
      refine ⟨_, hK, fun {X n I μ act w} hX hs => ?_⟩
      have k1 := nilI_cases ht.1 (ha ▸ hs.ev x)
      have k2 := nilI_cases ht.2.1 (hb ▸ hs.ev y)
      have he := eqIn_iface (P := P) hu _ _ (isNif a) (isNif b) k1 k2 hab 9999 w
      have hg : (eqGuard op t x y (act.eval x) (act.eval y)).run P w = .ok () w := by
        rcases k1 with ⟨_, e1⟩ | ⟨_, t1, y1, e1⟩ <;> rcases k2 with ⟨_, e2⟩ | ⟨_, t2, y2, e2⟩ <;> rw [e1, e2]
        · exact eqGuard_nil op t x y w hc
        all_goals (rcases hop with ⟨rfl, _⟩ | ⟨rfl, _⟩ <;> simp [eqGuard])
      refine ⟨_, ?_, RepP.bool z⟩
      have hb' : binOp op t (act.eval x) (act.eval y) = (if op = .eql then (do pure (.bool (← Op.equalIn (9999 + 1) t (act.eval x) (act.eval y)))) else (do pure (.bool (!(← Op.equalIn (9999 + 1) t (act.eval x) (act.eval y)))))) := by
        rcases k1 with ⟨_, e1⟩ | ⟨_, t1, y1, e1⟩ <;> rcases k2 with ⟨_, e2⟩ | ⟨_, t2, y2, e2⟩ <;> rw [e1, e2] <;> rcases hop with ⟨rfl, _⟩ | ⟨rfl, _⟩ <;> rfl
      rw [hb']
      rcases hop with ⟨rfl, rfl⟩ | ⟨rfl, rfl⟩
      · simp only [Sem.run_bind, hg, Result.andThen_ok, if_true, he, Sem.run_pure]
      · simp only [Sem.run_bind, hg, Result.andThen_ok, reduceCtorEq, if_false, he, Sem.run_pure]
  · cases h
end
end Go.Dip
end
