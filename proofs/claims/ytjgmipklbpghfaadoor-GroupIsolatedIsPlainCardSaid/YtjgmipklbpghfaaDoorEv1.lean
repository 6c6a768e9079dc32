/- A symbolic evaluator of the model's code: its definitions. What it computes is proved sound in the texts behind it. No condition. -/
import Derived.Orders
import Derived.Scope
import Derived.WalkKit
import Derived.WalkLawsBesides
import Derived.Laws.Closers25b
import Derived.Laws.StructEq
import Derived.Laws.Cells
import Derived.Below
namespace Go.Proofs.YtjgmipklbpghfaaDoor
open Go.RowKit

/-- The kinds of one cell's value. -/
inductive SK where
  | i (k : IntKind) | b | s | o

/-- The value of one cell, as an expression over the inputs. -/
inductive SE where
  | val (v : Value) (κ : SK)
  | lit (v : Value)
  | bin (op : BinOp) (k : IntKind) (a b : SE)
  | cmp (op : BinOp) (a b : SE)
  | beq (a b : SE)
  | seq (a b : SE)
  | neg (a : SE)
  | con (a b : SE)
  | cv (k : IntKind) (a : SE)
  | up (k : IntKind) (a : SE)
  | mn (k : IntKind) (a b : SE)
  | mx (k : IntKind) (a b : SE)
  | app (f : Nat) (F : List Value → List Value) (j : Nat) (κ : SK) (args : List SE)

def num : Value → Int | .int _ n => n | _ => 0
def tru : Value → Bool | .bool b => b | _ => false
def str : Value → ByteArray | .string b => b | _ => ⟨#[]⟩
def eqBs : List UInt8 → List UInt8 → Bool
  | [], [] => true
  | a :: x, b :: y => Nat.beq a.toNat b.toNat && eqBs x y
  | _, _ => false
def eqStr (a b : ByteArray) : Bool := eqBs a.data.toList b.data.toList

def binI (op : BinOp) (k : IntKind) (x y : Int) : Int :=
  match op with
  | .add => k.wrap (x + y)
  | .sub => k.wrap (x - y)
  | .mul => k.wrap (x * y)
  | .quo => k.wrap (x.tdiv y)
  | .rem => x.tmod y
  | .shl => k.wrap (x * 2 ^ (Min.min y.toNat k.bits))
  | .shr => x.fdiv (2 ^ (Min.min y.toNat k.bits))
  | .and => bits .and k x y
  | .or => bits .or k x y
  | .xor => bits .xor k x y
  | .andNot => bits .andNot k x y
  | _ => 0

def cmpB (op : BinOp) (x y : Int) : Bool :=
  match op with
  | .eql => x == y
  | .neq => x != y
  | .lss => decide (x < y)
  | .leq => decide (x ≤ y)
  | .gtr => decide (x > y)
  | .geq => decide (x ≥ y)
  | _ => false

def norm : SK → Value → Value
  | .i k, v => .int k (num v)
  | .b, v => .bool (tru v)
  | .s, v => .string (str v)
  | .o, v => v
mutual
def SE.den : SE → Value
  | .val v κ => norm κ v
  | .lit v => v
  | .bin op k a b => .int k (binI op k (num a.den) (num b.den))
  | .cmp op a b => .bool (cmpB op (num a.den) (num b.den))
  | .beq a b => .bool (tru a.den == tru b.den)
  | .seq a b => .bool (eqStr (str a.den) (str b.den))
  | .neg a => .bool (!(tru a.den))
  | .con a b => .bool (tru a.den && tru b.den)
  | .cv k a => .int k (k.wrap (num a.den))
  | .up k a => .int k (num a.den)
  | .mn k a b => .int k (if num b.den < num a.den then num b.den else num a.den)
  | .mx k a b => .int k (if num b.den > num a.den then num b.den else num a.den)
  | .app _ F j κ args => norm κ ((F (denL args)).getD j undef)
def denL : List SE → List Value
  | [] => []
  | x :: xs => x.den :: denL xs
end

def SE.kind : SE → Option SK
  | .val _ κ => some κ
  | .lit (.int k _) => some (.i k)
  | .lit (.bool _) => some .b
  | .lit (.string _) => some .s
  | .lit _ => some .o
  | .bin _ k _ _ => some (.i k)
  | .cmp .. => some .b
  | .beq .. => some .b
  | .seq .. => some .b
  | .neg _ => some .b
  | .con .. => some .b
  | .cv k _ => some (.i k)
  | .up k _ => some (.i k)
  | .mn k _ _ => some (.i k)
  | .mx k _ _ => some (.i k)
  | .app _ _ _ κ _ => some κ

/-- What a cell of memory, or a slot, may hold. -/
inductive SC where
  | e (x : SE)
  | p (b off : Nat)
  | fn (f : FuncId) (caps : List (Nat × Nat))
  | sl (b off len cap : Nat)

inductive SP where
  | c (x : SC)
  | agg (cs : List SC)

inductive SV where
  | p (x : SP)
  | tup (xs : List SP)

def undefS : SV := .tup []

structure Blk where
  cells : List SC
  elem : TypeId
  own : Bool

structure St where
  T : List SV
  H : List (Nat × Blk)
  nx : Nat

inductive Tree (α : Type) where
  | ret (a : α)
  | ite (c : SE) (t f : Tree α)
  | fail

def Tree.bind {α β : Type} : Tree α → (α → Tree β) → Tree β
  | .ret a, k => k a
  | .ite c t f, k => .ite c (t.bind k) (f.bind k)
  | .fail, _ => .fail

def Tree.den {α : Type} : Tree α → Option α
  | .ret a => some a
  | .ite c t f => bif tru c.den then t.den else f.den
  | .fail => none

def ofO {α : Type} : Option α → Tree α
  | some a => .ret a
  | none => .fail

def find (H : List (Nat × Blk)) (n : Nat) : Option Blk :=
  match H with
  | [] => none
  | (m, x) :: H => if Nat.beq m n then some x else find H n

/-- The block n with new cells. -/
def upd (H : List (Nat × Blk)) (n : Nat) (cs : List SC) : List (Nat × Blk) :=
  match H with
  | [] => []
  | (m, x) :: H => if Nat.beq m n then (m, { x with cells := cs }) :: H else (m, x) :: upd H n cs

/-! Small pieces. -/
def binEqIK : IntKind → IntKind → Bool
  | .i8, .i8 | .i16, .i16 | .i32, .i32 | .i64, .i64 | .u8, .u8 | .u16, .u16 | .u32, .u32 | .u64, .u64 => true
  | _, _ => false

def ofCell (v : Value) : Option SC :=
  match v with
  | .int k n => if decide (k.min ≤ n) && decide (n ≤ k.max) then some (.e (.lit v)) else none
  | .agg _ => none
  | .tuple _ => none
  | v => some (.e (.lit v))

def ofCells : List Value → Option (List SC)
  | [] => some []
  | v :: vs => match ofCell v, ofCells vs with
    | some c, some cs => some (c :: cs)
    | _, _ => none

def ofConst (v : Value) : Option SV :=
  match v with
  | .agg cs => (ofCells cs.toList).map fun cs => .p (.agg cs)
  | v => (ofCell v).map fun c => .p (.c c)

def lookT (T : List SV) (x : Operand) : Option SV :=
  match x with
  | .tmp t => T[t]?
  | .const v => ofConst v
  | .global _ => none
  | .func f => some (.p (.c (.fn f [])))

abbrev Get := Operand → Option SV

def getP (g : Get) (x : Operand) : Option SP := match g x with | some (.p y) => some y | _ => none
def getE (g : Get) (x : Operand) : Option SE := match g x with | some (.p (.c (.e y))) => some y | _ => none
def getA (g : Get) (x : Operand) : Option (Nat × Nat) := match g x with | some (.p (.c (.p n off))) => some (n, off) | _ => none

def SP.cells : SP → List SC
  | .c x => [x]
  | .agg cs => cs

def aggT (P : Program) (t : TypeId) : Option Bool := match P.underlying t with
  | some (.struct _) | some (.array _ _) => some true
  | some _ => some false
  | none => none
def sizeT (P : Program) (t : TypeId) : Option Nat := (P.info? t).map (·.size)

/-- n cells from off on. -/
def takeC (cs : List SC) (off n : Nat) : Option (List SC) :=
  let r := (cs.drop off).take n
  if Nat.beq r.length n then some r else none

/-- The part of type t that begins at cell off. -/
def partS (P : Program) (t : TypeId) (cs : List SC) (off : Nat) : Option SP :=
  match aggT P t with
  | some true => match sizeT P t with
    | some n => (takeC cs off n).map .agg
    | none => none
  | some false => (cs[off]?).map .c
  | none => none

def mkBin (op : BinOp) (k : IntKind) (a b : SE) : SE :=
  match a, b with
  | .lit (.int _ x), .lit (.int _ y) => .lit (.int k (binI op k x y))
  | a, b => .bin op k a b
def mkCmp (op : BinOp) (a b : SE) : SE :=
  match a, b with
  | .lit (.int _ x), .lit (.int _ y) => .lit (.bool (cmpB op x y))
  | a, b => .cmp op a b
def mkBeq (a b : SE) : SE :=
  match a, b with
  | .lit (.bool x), .lit (.bool y) => .lit (.bool (x == y))
  | a, b => .beq a b
def mkSeq (a b : SE) : SE :=
  match a, b with
  | .lit (.string x), .lit (.string y) => .lit (.bool (eqStr x y))
  | a, b => .seq a b
def mkNeg (a : SE) : SE :=
  match a with
  | .lit (.bool x) => .lit (.bool (!x))
  | a => .neg a
def mkCon (a b : SE) : SE :=
  match a, b with
  | .lit (.bool true), b => b
  | .lit (.bool false), _ => .lit (.bool false)
  | a, .lit (.bool true) => a
  | a, b => .con a b

/-- Does every number of the kind j lie in the kind k? -/
def widens (j k : IntKind) : Bool := decide (k.min ≤ j.min) && decide (j.max ≤ k.max)
def mkCv (k j : IntKind) (a : SE) : SE :=
  match a with
  | .lit (.int _ x) => .lit (.int k (k.wrap x))
  | a => if widens j k then .up k a else .cv k a

inductive Res where
  | val (v : SV)
  | blk (cs : List SC) (t : TypeId)
  | sl (cs : List SC) (t : TypeId) (len : Nat)
  | st (n : Nat) (cs : List SC) (off : Nat) (new : List SC)

def vE (x : SE) : Tree Res := .ret (.val (.p (.c (.e x))))

/-- Cells off, off + 1 .. replaced. -/
def putC (cs : List SC) (off : Nat) : List SC → List SC
  | [] => cs
  | c :: new => putC (cs.set off c) (off + 1) new

/-- '==' of two aggregates, by their type. -/
def eqFs (rec : TypeId → SP → SP → Option SE) (P : Program) (xs ys : List SC) : List Field → Option SE
  | [] => some (.lit (.bool true))
  | f :: fs => if f.name == "_" then none else
    match partS P f.type xs f.offset, partS P f.type ys f.offset with
    | some a, some b => match rec f.type a b, eqFs rec P xs ys fs with
      | some c, some d => some (mkCon c d)
      | _, _ => none
    | _, _ => none
def eqEs (rec : TypeId → SP → SP → Option SE) (P : Program) (e : TypeId) (n : Nat) (xs ys : List SC) (i : Nat) : Nat → Option SE
  | 0 => some (.lit (.bool true))
  | len + 1 =>
    match partS P e xs (i * n), partS P e ys (i * n) with
    | some a, some b => match rec e a b, eqEs rec P e n xs ys (i + 1) len with
      | some c, some d => some (mkCon c d)
      | _, _ => none
    | _, _ => none
def eqS (P : Program) : Nat → TypeId → SP → SP → Option SE
  | 0, _, _, _ => none
  | d + 1, t, x, y =>
    match P.underlying t, x, y with
    | some .bool, .c (.e a), .c (.e b) => match a.kind, b.kind with
      | some .b, some .b => some (mkBeq a b)
      | _, _ => none
    | some (.int _), .c (.e a), .c (.e b) => match a.kind, b.kind with
      | some (.i k), some (.i k') => if binEqIK k k' then some (mkCmp .eql a b) else none
      | _, _ => none
    | some (.struct fs), .agg xs, .agg ys => if P.stoodInHeld t then none else eqFs (eqS P d) P xs ys fs.toList
    | some (.array len e), .agg xs, .agg ys => match sizeT P e with
      | some n => eqEs (eqS P d) P e n xs ys 0 len
      | none => none
    | _, _, _ => none

def unsg : IntKind → Bool | .u8 | .u16 | .u32 | .u64 => true | _ => false
def shiftOk (k : IntKind) (b : SE) : Bool := unsg k || match b with | .lit (.int _ n) => decide (0 ≤ n) | _ => false
def isCmp : BinOp → Bool | .eql | .neq | .lss | .leq | .gtr | .geq => true | _ => false

def binE (op : BinOp) (k k' : IntKind) (a b : SE) : Tree Res :=
  match op with
  | .shl | .shr => if shiftOk k' b then vE (mkBin op k a b) else .fail
  | .add | .sub | .mul | .and | .or | .xor | .andNot => if binEqIK k k' then vE (mkBin op k a b) else .fail
  | .quo | .rem => if binEqIK k k' then
      match b with
      | .lit (.int _ n) => if decide (n = 0) then .fail else vE (mkBin op k a b)
      | b => .ite (.cmp .eql b (.lit (.int k 0))) .fail (vE (mkBin op k a b))
    else .fail
  | op => if isCmp op && binEqIK k k' then vE (mkCmp op a b) else .fail

def binStep (P : Program) (op : BinOp) (t : TypeId) (x y : SP) : Tree Res :=
  match x, y with
  | .c (.e a), .c (.e b) =>
    match a.kind, b.kind with
    | some (.i k), some (.i k') => binE op k k' a b
    | some .b, some .b => match op, P.underlying t with
      | .eql, some .bool => vE (mkBeq a b)
      | .neq, some .bool => vE (mkNeg (mkBeq a b))
      | _, _ => .fail
    | some .s, some .s => match op with
      | .eql => vE (mkSeq a b)
      | .neq => vE (mkNeg (mkSeq a b))
      | _ => .fail
    | _, _ => .fail
  | .agg xs, .agg ys =>
    if P.eqGuardType P.depth t then .fail else
    match op, eqS P 10000 t (.agg xs) (.agg ys) with
    | .eql, some c => vE c
    | .neq, some c => vE (mkNeg c)
    | _, _ => .fail
  | _, _ => .fail

/-- 'build': the parts laid over the zero value's cells. -/
def fillS (place : Nat → Option (Nat × Nat)) (cs : List SC) : List (Nat × SP) → Option (List SC)
  | [] => some cs
  | (i, v) :: rest =>
    match place i with
    | none => none
    | some (off, size) =>
      if !(Nat.beq v.cells.length size) || Nat.blt cs.length (off + v.cells.length) then none
      else fillS place (putC cs off v.cells) rest

def getPs (g : Get) : List (Nat × Operand) → Option (List (Nat × SP))
  | [] => some []
  | (i, x) :: l => match getP g x, getPs g l with
    | some v, some r => some ((i, v) :: r)
    | _, _ => none

def placesS (P : Program) : List Field → Option (List (Nat × Nat))
  | [] => some []
  | f :: fs => match sizeT P f.type, placesS P fs with
    | some n, some r => some ((f.offset, n) :: r)
    | _, _ => none

def getAs (g : Get) : List Operand → Option (List (Nat × Nat))
  | [] => some []
  | x :: l => match getA g x, getAs g l with
    | some v, some r => some (v :: r)
    | _, _ => none

/-- min, max of integers of one kind. -/
def foldE (F : SE → SE → SE) (k : IntKind) (g : Get) (acc : SE) : List Operand → Option SE
  | [] => some acc
  | x :: l => match getE g x with
    | some y => match y.kind with
      | some (.i k') => if binEqIK k k' then foldE F k g (F acc y) l else none
      | _ => none
    | none => none

def mkMn (k : IntKind) (a b : SE) : SE :=
  match a, b with
  | .lit (.int _ x), .lit (.int _ y) => .lit (.int k (if y < x then y else x))
  | a, b => .mn k a b
def mkMx (k : IntKind) (a b : SE) : SE :=
  match a, b with
  | .lit (.int _ x), .lit (.int _ y) => .lit (.int k (if y > x then y else x))
  | a, b => .mx k a b

def minmax (mk : IntKind → SE → SE → SE) (g : Get) : List Operand → Tree Res
  | x :: l => match getE g x with
    | some a => match a.kind with
      | some (.i k) => match foldE (mk k) k g a l with
        | some r => vE r
        | none => .fail
      | _ => .fail
    | none => .fail
  | [] => .fail

/-- An index that is one of i, i + 1, .., c of them. -/
def splitI (e : SE) (k : IntKind) (mk : Nat → Tree Res) (i : Nat) : Nat → Tree Res
  | 0 => .fail
  | c + 1 => .ite (.cmp .eql e (.lit (.int k i))) (mk i) (splitI e k mk (i + 1) c)
/-- At an index: known, or not. -/
def atI (e : SE) (len : Nat) (mk : Nat → Tree Res) : Tree Res :=
  match e with
  | .lit (.int _ j) => if decide (0 ≤ j) && decide (j < len) then mk j.toNat else .fail
  | e => match e.kind with
    | some (.i k) => splitI e k mk 0 len
    | _ => .fail
/-- The first content of a slice that is written out. -/
def repC (zs : List SC) (n : Nat) : List SC := (List.range n).map fun i => zs.getD (i % zs.length) (.e (.lit (.bool false)))
def getSl (g : Get) (x : Operand) : Option (Nat × Nat × Nat) := match g x with | some (.p (.c (.sl n off len _))) => some (n, off, len) | _ => none

/-! Shapes. -/
inductive PS where
  | c (κ : SK)
  | agg (κs : List SK)
def PS.kinds : PS → List SK
  | .c κ => [κ]
  | .agg κs => κs
def kindsL : List PS → List SK
  | [] => []
  | p :: ps => p.kinds ++ kindsL ps

inductive RS where
  | one (p : PS)
  | tup (ps : List PS)
def RS.kinds : RS → List SK
  | .one p => p.kinds
  | .tup ps => kindsL ps

/-- A contract under a condition on its arguments. -/
structure CSum where
  f : FuncId
  F : List Value → List Value
  pre : List Value → Bool
  args : List PS
  res : RS
/-- Old memory that is read through arguments, and the contracts that read it. -/
structure MemS where
  cell : Addr → Option Value
  cs : List CSum
def noMem : MemS := ⟨fun _ => none, []⟩
def appsS (f : Nat) (F : List Value → List Value) (args : List SE) : Nat → List SK → List SC
  | _, [] => []
  | j, κ :: κs => .e (.app f F j κ args) :: appsS f F args (j + 1) κs
/-- The kinds of the parts, one behind another. -/
def plainFs (P : Program) (r : TypeId → Option (List SK)) : Nat → List (Nat × TypeId) → Option (List SK)
  | _, [] => some []
  | off, f :: fs =>
    match r f.2 with
    | some κs => if f.1 = off ∧ κs.length = P.cellsOf f.2 then (plainFs P r (off + κs.length) fs).map (κs ++ ·) else none
    | none => none
/-- The kinds of a plain type's cells. -/
def plainT (P : Program) : Nat → TypeId → Option (List SK)
  | 0, _ => none
  | n + 1, t =>
    match P.underlying t with
    | some .bool => some [.b]
    | some (.int k) => some [.i k]
    | some .string => some [.s]
    | some (.struct fs) => match plainFs P (plainT P n) 0 (fs.toList.map fun f => (f.offset, f.type)) with
      | some κs => if κs.length = P.cellsOf t then some κs else none
      | none => none
    | some (.array m e) => match plainFs P (plainT P n) 0 ((List.range m).map fun i => (i * P.cellsOf e, e)) with
      | some κs => if κs.length = P.cellsOf t then some κs else none
      | none => none
    | _ => none
/-! Slices among the arguments: opaque values, read and never written. -/
def slF : List Value → List Value
  | [.slice _ n _] => [.bool (decide ((n : Int) ≤ 9223372036854775807))]
  | _ => [.bool false]
def lnF : List Value → List Value
  | [.slice _ n _] => [.int .i64 n]
  | _ => []
def ixF : List Value → List Value
  | [.slice (some _) n _, .int _ j] => [.bool (decide (0 ≤ j) && decide (j < n))]
  | _ => [.bool false]
def ptF (s : Nat) : List Value → List Value
  | [.slice (some a) _ _, .int _ j] => [.pointer (some (a.add (j.toNat * s)))]
  | _ => []
def isK : SK → Value → Bool
  | .i k, .int k' n => binEqIK k k' && decide (k.min ≤ n) && decide (n ≤ k.max)
  | .b, .bool _ => true
  | .s, .string _ => true
  | _, _ => false
def rdAll (cell : Addr → Option Value) (a : Addr) : Nat → List SK → Bool
  | _, [] => true
  | i, κ :: κs => (match cell (a.add i) with | some v => isK κ v | none => false) && rdAll cell a (i + 1) κs
def rdL (cell : Addr → Option Value) (a : Addr) : Nat → Nat → List Value
  | _, 0 => []
  | i, n + 1 => (cell (a.add i)).getD undef :: rdL cell a (i + 1) n
def rdK (cell : Addr → Option Value) (κs : List SK) : List Value → List Value
  | [.pointer (some a)] => [.bool (rdAll cell a 0 κs)]
  | _ => [.bool false]
def rdF (cell : Addr → Option Value) (n : Nat) : List Value → List Value
  | [.pointer (some a)] => rdL cell a 0 n
  | _ => []
def preF (p : List Value → Bool) (vs : List Value) : List Value := [.bool (p vs)]
def loadM (M : MemS) (P : Program) (t : TypeId) (x : Option SE) : Tree Res :=
  match x with
  | some e => match e.kind, aggT P t, sizeT P t, plainT P 8 t with
    | some .o, some true, some n, some κs => if Nat.beq n κs.length then .ite (.app (4000000 + t) (rdK M.cell κs) 0 .b [e]) (.ret (.val (.p (.agg (appsS (2000000 + t) (rdF M.cell κs.length) [e] 0 κs))))) .fail else .fail
    | some .o, some false, _, some [κ] => .ite (.app (4000000 + t) (rdK M.cell [κ]) 0 .b [e]) (.ret (.val (.p (.c (.e (.app (2000000 + t) (rdF M.cell 1) 0 κ [e])))))) .fail
    | _, _, _, _ => .fail
  | none => .fail
def indexM (s : Nat) (x : Option SE) (j : SE) : Tree Res :=
  match x with
  | some a => match a.kind, j.kind with
    | some .o, some (.i .i64) => .ite (.app 1000002 ixF 0 .b [a, j]) (.ret (.val (.p (.c (.e (.app (3000000 + s) (ptF s) 0 .o [a, j])))))) .fail
    | _, _ => .fail
  | none => .fail
def lenM (x : Option SE) : Tree Res :=
  match x with
  | some a => match a.kind with
    | some .o => .ite (.app 1000001 slF 0 .b [a]) (vE (.app 1000000 lnF 0 (.i .i64) [a])) .fail
    | _ => .fail
  | none => .fail

/-- One operation that is no call of a Go function. -/
def pureStep (M : MemS) (P : Program) (H : List (Nat × Blk)) (g : Get) (op : Op) : Tree Res :=
  match op with
  | .move x | .assign x => match g x with
    | some v => .ret (.val v)
    | none => .fail
  | .pick c a b => match getE g c with
    | some (.lit (.bool true)) => match g a with | some v => .ret (.val v) | none => .fail
    | some (.lit (.bool false)) => match g b with | some v => .ret (.val v) | none => .fail
    | some c => match c.kind, g a, g b with
      | some .b, some u, some v => .ite c (.ret (.val u)) (.ret (.val v))
      | _, _, _ => .fail
    | none => .fail
  | .alloc t => match (P.info? t).bind (·.zero) with
    | some v => match ofCells v.cells.toList with
      | some cs => .ret (.blk cs t)
      | none => .fail
    | none => .fail
  | .box t x => match getP g x with
    | some v => .ret (.blk v.cells t)
    | none => .fail
  | .build t parts => match (P.info? t).bind (·.zero), getPs g parts.toList with
    | some z, some ps => match ofCells z.cells.toList, P.underlying t with
      | some zs, some (.struct fs) => match placesS P fs.toList with
        | some pl => match fillS (fun i => pl[i]?) zs ps with
          | some cs => .ret (.val (.p (.agg cs)))
          | none => .fail
        | none => .fail
      | some zs, some (.array _ e) => match sizeT P e with
        | some n => match fillS (fun i => some (i * n, n)) zs ps with
          | some cs => .ret (.val (.p (.agg cs)))
          | none => .fail
        | none => .fail
      | _, _ => .fail
    | _, _ => .fail
  | .load t x => match getA g x with
    | some (n, off) => match find H n with
      | some b => match partS P t b.cells off with
        | some v => .ret (.val (.p v))
        | none => .fail
      | none => .fail
    | none => loadM M P t (getE g x)
  | .store t x y => match getA g x, getP g y with
    | some (n, off), some v => match find H n, sizeT P t with
      | some b, some k => if b.own && Nat.beq v.cells.length k && Nat.ble (off + k) b.cells.length then .ret (.st n b.cells off v.cells) else .fail
      | _, _ => .fail
    | _, _ => .fail
  | .nilCheck x => match g x with
    | some (.p (.c (.p n off))) => .ret (.val (.p (.c (.p n off))))
    | some (.p (.c (.fn f c))) => .ret (.val (.p (.c (.fn f c))))
    | _ => .fail
  | .binOp op t x y _ => match getP g x, getP g y with
    | some a, some b => binStep P op t a b
    | _, _ => .fail
  | .unOp .neg _ x => match getE g x with
    | some a => match a.kind with
      | some (.i k) => vE (mkBin .sub k (.lit (.int k 0)) a)
      | _ => .fail
    | none => .fail
  | .unOp .not _ x => match getE g x with
    | some a => match a.kind with
      | some .b => vE (mkNeg a)
      | _ => .fail
    | none => .fail
  | .convert src dst x => match P.underlying src, P.underlying dst, getE g x with
    | some (.int _), some (.int k), some a => match a.kind with
      | some (.i j) => vE (mkCv k j a)
      | _ => .fail
    | _, _, _ => .fail
  | .fieldAddr s x f => match P.underlying s, getA g x with
    | some (.struct fs), some (n, off) => match fs[f]? with
      | some fl => match sizeT P fl.type with
        | some (_ + 1) => .ret (.val (.p (.c (.p n (off + fl.offset)))))
        | _ => .fail
      | none => .fail
    | _, _ => .fail
  | .field t x f => match P.underlying t, getP g x with
    | some (.struct fs), some (.agg cs) => match fs[f]? with
      | some fl => match partS P fl.type cs fl.offset with
        | some v => .ret (.val (.p v))
        | none => .fail
      | none => .fail
    | _, _ => .fail
  | .indexAddr t x i => match P.underlying t, getE g i with
    | some (.array len e), some j => match getA g x, sizeT P e with
      | some (n, off), some s => atI j len fun q => .ret (.val (.p (.c (.p n (off + q * s)))))
      | _, _ => .fail
    | some (.slice e), some j => match getSl g x, sizeT P e with
      | some (n, off, len), some s => atI j len fun q => .ret (.val (.p (.c (.p n (off + q * s)))))
      | none, some s => indexM s (getE g x) j
      | _, _ => .fail
    | _, _ => .fail
  | .index t x i => match P.underlying t, getP g x, getE g i with
    | some (.array len e), some (.agg cs), some j => match sizeT P e with
      | some s => atI j len fun q => match partS P e cs (q * s) with
          | some v => .ret (.val (.p v))
          | none => .fail
      | none => .fail
    | _, _, _ => .fail
  | .buildSlice t len parts => match P.underlying t, getPs g parts.toList with
    | some (.slice e), some ps => match sizeT P e, (P.info? e).bind (·.zero) with
      | some (n + 1), some z => if Nat.ble (len * (n + 1)) 4096 && Nat.blt 0 len then
          match ofCells z.cells.toList with
          | some zs => if Nat.beq zs.length (n + 1) then match fillS (fun i => some (i * (n + 1), n + 1)) (repC zs (len * (n + 1))) ps with
            | some cs => .ret (.sl cs e len)
            | none => .fail
            else .fail
          | none => .fail
        else .fail
      | _, _ => .fail
    | _, _ => .fail
  | .extract x i => match g x with
    | some (.tup xs) => match xs[i]? with
      | some v => .ret (.val (.p v))
      | none => .fail
    | _ => .fail
  | .makeFunc (.func f) first captured => match first.toList, getAs g captured.toList with
    | [], some caps => .ret (.val (.p (.c (.fn f caps))))
    | _, _ => .fail
  | .call c => match c.callee with
    | .builtin .min => minmax mkMn g c.args.toList
    | .builtin .max => minmax mkMx g c.args.toList
    | .builtin .len => match c.argTypes.toList, c.args.toList with
      | [t], [x] => match P.underlying t with
        | some (.array n _) => if Nat.ble n 1000000 then vE (.lit (.int .i64 n)) else .fail
        | some (.slice _) => match getSl g x with
          | some (_, _, n) => if Nat.ble n 1000000 then vE (.lit (.int .i64 n)) else .fail
          | none => lenM (getE g x)
        | _ => .fail
      | _, _ => .fail
    | _ => .fail
  | _ => .fail

/-! Contracts. -/
def PS.pack : PS → List Value → Value
  | .c _, vs => vs.headD undef
  | .agg κs, vs => .agg (vs.take κs.length).toArray
def packL : List PS → List Value → List Value
  | [], _ => []
  | p :: ps, vs => p.pack vs :: packL ps (vs.drop p.kinds.length)
def RS.pack : RS → List Value → Value
  | .one p, vs => p.pack vs
  | .tup ps, vs => .tuple (packL ps vs).toArray

structure Sum where
  f : FuncId
  F : List Value → List Value
  args : List PS
  res : RS

def eqSK : SK → SK → Bool
  | .i k, .i k' => binEqIK k k'
  | .b, .b => true
  | .s, .s => true
  | .o, .o => true
  | _, _ => false

def flatC : List SK → List SC → Option (List SE)
  | [], [] => some []
  | κ :: κs, .e x :: cs => match x.kind, flatC κs cs with
    | some κ', some r => if eqSK κ κ' then some (x :: r) else none
    | _, _ => none
  | _, _ => none
def flatP (p : PS) (v : SP) : Option (List SE) :=
  match p, v with
  | .c κ, .c x => flatC [κ] [x]
  | .agg κs, .agg cs => flatC κs cs
  | _, _ => none
def flatL : List PS → List SV → Option (List SE)
  | [], [] => some []
  | p :: ps, .p v :: vs => match flatP p v, flatL ps vs with
    | some a, some b => some (a ++ b)
    | _, _ => none
  | _, _ => none

def mkP (f : Nat) (F : List Value → List Value) (args : List SE) (j : Nat) : PS → SP
  | .c κ => .c (.e (.app f F j κ args))
  | .agg κs => .agg (appsS f F args j κs)
def mkPs (f : Nat) (F : List Value → List Value) (args : List SE) (j : Nat) : List PS → List SP
  | [] => []
  | p :: ps => mkP f F args j p :: mkPs f F args (j + p.kinds.length) ps
def mkR (f : Nat) (F : List Value → List Value) (args : List SE) : RS → SV
  | .one p => .p (mkP f F args 0 p)
  | .tup ps => .tup (mkPs f F args 0 ps)

def findS (S : List Sum) (f : FuncId) : Option Sum :=
  match S with
  | [] => none
  | s :: S => if Nat.beq s.f f then some s else findS S f

def findC (S : List CSum) (f : FuncId) : Option CSum :=
  match S with
  | [] => none
  | s :: S => if Nat.beq s.f f then some s else findC S f

/-! Code. -/
inductive Xt where
  | normal | exit (id : Nat) | ret

def getSs (g : Get) : List Operand → Option (List SV)
  | [] => some []
  | x :: l => match g x, getSs g l with
    | some v, some r => some (v :: r)
    | _, _ => none

def resS (P : Program) (s : St) : List ResultVar → Option (List SP)
  | [] => some []
  | .tmp t :: l => match s.T[t]?, resS P s l with
    | some (.p v), some r => some (v :: r)
    | _, _ => none
  | .cell a t :: l => match s.T[a]?, resS P s l with
    | some (.p (.c (.p n off))), some r => match find s.H n with
      | some b => match partS P t b.cells off with
        | some v => some (v :: r)
        | none => none
      | none => none
    | _, _ => none
def resV (xs : List SP) : SV := match xs with | [x] => .p x | xs => .tup xs

def capsS (caps : List (Nat × Nat)) : List SV := caps.map fun c => .p (.c (.p c.1 c.2))

abbrev Rec := Code → St → Tree (Xt × St)

def callF (rec : Rec) (P : Program) (f : FuncId) (args : List SV) (H : List (Nat × Blk)) (nx : Nat) : Tree (SV × List (Nat × Blk) × Nat) :=
  match P.funcs[f]? with
  | none => .fail
  | some fn => match fn.body with
    | none => .fail
    | some c => if fn.name == "runtime.NumGoroutine" then .fail else
      (rec c { T := args ++ List.replicate (fn.ntmps - args.length) undefS, H, nx }).bind fun r =>
        match r.1 with
        | .exit _ => .fail
        | _ => match resS P r.2 fn.results.toList with
          | some xs => .ret (resV xs, r.2.H, r.2.nx)
          | none => .fail

def callS (M : MemS) (rec : Rec) (P : Program) (S : List Sum) (s : St) (f : FuncId) (args : List SV) : Tree (SV × List (Nat × Blk) × Nat) :=
  match findS S f with
  | some c => match flatL c.args args with
    | some xs => .ret (mkR f c.F xs c.res, s.H, s.nx)
    | none => .fail
  | none => match findC M.cs f with
    | some c => match flatL c.args args with
      | some xs => .ite (.app (5000000 + f) (preF c.pre) 0 .b xs) (.ret (mkR f c.F xs c.res, s.H, s.nx)) .fail
      | none => .fail
    | none => callF rec P f args s.H s.nx

def putT (T : List SV) (dst : Option Nat) (v : SV) : List SV := match dst with | some d => T.set d v | none => T

def used (ops : Array Oper) (i : Nat) : Bool := ops.toList.any fun o => match o.guard with | some (j, _) => Nat.beq j i | none => false

def wantS (ops : Array Oper) (T : List SV) (o : Oper) : Option Bool :=
  match o.guard with
  | none => some true
  | some (j, want) => match (ops[j]?).bind (·.dst) with
    | none => none
    | some d => match T[d]? with
      | some (.p (.c (.e (.lit (.bool b))))) => some (b == want)
      | some (.tup []) => some false
      | _ => none

/-- A slot whose truth is asked for: the way parts. -/
def part (u : Bool) (v : SV) : Tree SV :=
  if u then
    match v with
    | .p (.c (.e (.lit w))) => .ret (.p (.c (.e (.lit w))))
    | .p (.c (.e x)) => match x.kind with
      | some .b => .ite x (.ret (.p (.c (.e (.lit (.bool true)))))) (.ret (.p (.c (.e (.lit (.bool false))))))
      | _ => .ret v
    | v => .ret v
  else .ret v

def fin (s : St) (dst : Option Nat) (u : Bool) (r : Res) : Tree St :=
  match r with
  | .val v => (part u v).bind fun v => .ret { s with T := putT s.T dst v }
  | .blk cs t => .ret { T := putT s.T dst (.p (.c (.p s.nx 0))), H := (s.nx, ⟨cs, t, true⟩) :: s.H, nx := s.nx + 1 }
  | .sl cs t len => .ret { T := putT s.T dst (.p (.c (.sl s.nx 0 len len))), H := (s.nx, ⟨cs, t, true⟩) :: s.H, nx := s.nx + 1 }
  | .st n cs off new => .ret { T := putT s.T dst undefS, H := upd s.H n (putC cs off new), nx := s.nx }

/-- One operation. -/
def opS (M : MemS) (rec : Rec) (P : Program) (S : List Sum) (u : Bool) (o : Oper) (s : St) : Tree St :=
  match o.op with
  | .call { callee := .value f, args, .. } =>
    match lookT s.T f, getSs (lookT s.T) args.toList with
    | some (.p (.c (.fn f caps))), some vs => (callS M rec P S s f (vs ++ capsS caps)).bind fun r =>
      (part u r.1).bind fun v => .ret { T := putT s.T o.dst v, H := r.2.1, nx := r.2.2 }
    | _, _ => .fail
  | op => (pureStep M P s.H (lookT s.T) op).bind fun r => fin s o.dst u r

def evOps (M : MemS) (rec : Rec) (P : Program) (S : List Sum) (ops : Array Oper) : Nat → List Oper → St → Tree St
  | _, [], s => .ret s
  | i, o :: l, s =>
    match wantS ops s.T o with
    | none => .fail
    | some false => evOps M rec P S ops (i + 1) l { s with T := putT s.T o.dst undefS }
    | some true => (opS M rec P S (used ops i) o s).bind fun s => evOps M rec P S ops (i + 1) l s

/-! A region that draws its order: what makes every order alike. -/
def allowed (M : MemS) (S : List Sum) (o : Oper) : Bool :=
  match o.op with
  | .call { callee := .value (.func f), .. } => (findS S f).isSome || (findC M.cs f).isSome
  | .call { callee := .builtin _, .. } => true
  | .call _ => false
  | _ => true

/-- It stores. -/
def isSt (o : Oper) : Bool := match o.op with | .store .. => true | _ => false
/-- The block that an operation reads, writes or makes. -/
def accOf (g : Get) (nx : Nat) (o : Oper) : Option Nat := match o.op with
  | .load _ x | .store _ x _ => (getA g x).map (·.1)
  | .alloc .. | .box .. | .buildSlice .. => some nx
  | _ => none

/-- The operations on which one hangs, near and far, as bits. -/
def maskOf (acc : List Nat) : List Edge → Nat
  | [] => 0
  | e :: es => if Region.binds .any e then (2 ^ e.on ||| acc.getD e.on 0) ||| maskOf acc es else maskOf acc es

/-- Each slot that the i-th operation looks at is written by no operation of the region, by one on which it hangs, or by a later one that hangs on it. -/
def slotsOk (ms : List Nat) (lk : List Tmp) (i m : Nat) : Nat → List (Option Tmp) → Bool
  | _, [] => true
  | j, none :: l => slotsOk ms lk i m (j + 1) l
  | j, some d :: l => (!(lk.contains d) || ((Nat.blt j i && m.testBit j) || (Nat.blt i j && (ms.getD j 0).testBit i))) && slotsOk ms lk i m (j + 1) l
def hangs (dsts : List (Option Tmp)) (ops : Array Oper) (ms : List Nat) : Nat → List Nat → List Oper → Bool
  | _, _, [] => true
  | i, acc, o :: l => (o.after.toList.all fun e => !(Region.binds .any e) || Nat.blt e.on i) && slotsOk ms (Oper.looksAt ops o) i (maskOf acc o.after.toList) 0 dsts && hangs dsts ops ms (i + 1) (acc ++ [maskOf acc o.after.toList]) l

def masks (acc : List Nat) : List Oper → List Nat
  | [] => acc
  | o :: l => masks (acc ++ [maskOf acc o.after.toList]) l
def sameB : Option Nat → Option Nat → Bool
  | some n, some m => Nat.beq n m
  | _, _ => false
/-- A store and another operation on the same block never change places. -/
def accRow (ms : List Nat) (i : Nat) (n : Option Nat) : Nat → List (Option Nat) → Bool
  | _, [] => true
  | j, m :: l => (!(sameB n m) || ((!(Nat.blt j i) || (ms.getD i 0).testBit j) && (!(Nat.blt i j) || (ms.getD j 0).testBit i))) && accRow ms i n (j + 1) l
def accAll (ms : List Nat) (all : List (Option Nat)) : Nat → List Oper → List (Option Nat) → Bool
  | i, o :: l, n :: ns => (!(isSt o) || accRow ms i n 0 all) && accAll ms all (i + 1) l ns
  | _, _, _ => true

/-- As evOps, and the blocks that the operations touch. -/
def evD (M : MemS) (rec : Rec) (P : Program) (S : List Sum) (ops : Array Oper) : Nat → List Oper → St → List (Option Nat) → Tree (St × List (Option Nat))
  | _, [], s, l => .ret (s, l)
  | i, o :: os, s, l =>
    match wantS ops s.T o with
    | none => .fail
    | some false => evD M rec P S ops (i + 1) os { s with T := putT s.T o.dst undefS } (l ++ [none])
    | some true => (opS M rec P S (used ops i) o s).bind fun s' => evD M rec P S ops (i + 1) os s' (l ++ [accOf (lookT s.T) s.nx o])

def apartD : List (Option Tmp) → Bool
  | [] => true
  | none :: l => apartD l
  | some d :: l => !(l.contains (some d)) && apartD l

def drawOK (M : MemS) (P : Program) (S : List Sum) (ops : Array Oper) : Bool :=
  P.follows .mixedOrders && ops.toList.all (allowed M S) && apartD (ops.toList.map (·.dst)) && hangs (ops.toList.map (·.dst)) ops (masks [] ops.toList) 0 [] ops.toList

def refT (T : List SV) (x : Operand) (b : Bool) : List SV :=
  match x with
  | .tmp t => T.set t (.p (.c (.e (.lit (.bool b)))))
  | _ => T

def stepC (M : MemS) (P : Program) (S : List Sum) (rec : Rec) (c : Code) (s : St) : Tree (Xt × St) :=
  match c with
  | .skip => .ret (.normal, s)
  | .label _ => .ret (.normal, s)
  | .region _ ops draw => if draw then
      if drawOK M P S ops then (evD M rec P S ops 0 ops.toList s []).bind fun r => if accAll (masks [] ops.toList) r.2 0 ops.toList r.2 then .ret (.normal, r.1) else .fail
      else .fail
    else (evOps M rec P S ops 0 ops.toList s).bind fun s => .ret (.normal, s)
  | .seq a b => (rec a s).bind fun r => match r.1 with
    | .normal => rec b r.2
    | x => .ret (x, r.2)
  | .cond c a b => match lookT s.T c with
    | some (.p (.c (.e (.lit (.bool true))))) => rec a s
    | some (.p (.c (.e (.lit (.bool false))))) => rec b s
    | some (.p (.c (.e x))) => match x.kind with
      | some .b => .ite x (rec a { s with T := refT s.T c true }) (rec b { s with T := refT s.T c false })
      | _ => .fail
    | _ => .fail
  | .block id a => (rec a s).bind fun r => match r.1 with
    | .exit id' => if Nat.beq id' id then .ret (.normal, r.2) else .ret (.exit id', r.2)
    | x => .ret (x, r.2)
  | .loop a => (rec a s).bind fun r => match r.1 with
    | .normal => rec (.loop a) r.2
    | x => .ret (x, r.2)
  | .exit id => .ret (.exit id, s)
  | .scope a => rec a s
  | .ret => .ret (.ret, s)
  | _ => .fail

def ev (M : MemS) (P : Program) (S : List Sum) (n : Nat) : Rec :=
  Nat.rec (motive := fun _ => Rec) (fun _ _ => .fail) (fun _ ih => stepC M P S ih) n

/-- A function at arguments, nothing known of memory. -/
def evFM (M : MemS) (P : Program) (S : List Sum) (n : Nat) (f : FuncId) (args : List SV) : Tree SV :=
  (callF (ev M P S n) P f args [] 0).bind fun r => .ret r.1
def evF (P : Program) (S : List Sum) (n : Nat) (f : FuncId) (args : List SV) : Tree SV := evFM noMem P S n f args

/-! The inputs, and what is handed back. -/
def inCs : List SK → List Value → List SC
  | [], _ => []
  | κ :: κs, vs => .e (.val (vs.headD undef) κ) :: inCs κs vs.tail
def PS.inP : PS → List Value → SP
  | .c κ, vs => .c (.e (.val (vs.headD undef) κ))
  | .agg κs, vs => .agg (inCs κs vs)
def inL : List PS → List Value → List SV
  | [], _ => []
  | p :: ps, vs => .p (p.inP vs) :: inL ps (vs.drop p.kinds.length)

def SC.leaf : SC → Value
  | .e x => x.den
  | _ => undef
def leafs : List SC → List Value
  | [] => []
  | c :: cs => c.leaf :: leafs cs
def SP.out : SP → Value
  | .c x => x.leaf
  | .agg cs => .agg (leafs cs).toArray
def outs : List SP → List Value
  | [] => []
  | x :: xs => x.out :: outs xs
def SV.out : SV → Value
  | .p x => x.out
  | .tup xs => .tuple (outs xs).toArray

def fitC : List SK → List SC → Bool
  | [], [] => true
  | κ :: κs, .e x :: cs => (match x.kind with | some κ' => eqSK κ κ' | none => false) && fitC κs cs
  | _, _ => false
def fitP : PS → SP → Bool
  | .c κ, .c x => fitC [κ] [x]
  | .agg κs, .agg cs => fitC κs cs
  | _, _ => false
def fitL : List PS → List SP → Bool
  | [], [] => true
  | p :: ps, x :: xs => fitP p x && fitL ps xs
  | _, _ => false
def fitR : RS → SV → Bool
  | .one p, .p x => fitP p x
  | .tup ps, .tup xs => fitL ps xs
  | _, _ => false

/-- Every way ends in what the shape says, or fails. -/
def Tree.good (r : RS) : Tree SV → Bool
  | .ret v => fitR r v
  | .ite _ t f => t.good r && f.good r
  | .fail => true
/-- The way that is gone does not fail. -/
def Tree.ok : Tree SV → Bool
  | .ret _ => true
  | .ite c t f => bif tru c.den then t.ok else f.ok
  | .fail => false
def Tree.sure : Tree SV → Bool
  | .ret _ => true
  | .ite _ t f => t.sure && f.sure
  | .fail => false
/-- The same, the sure branches left out. -/
def Tree.okR : Tree SV → Bool
  | .ret _ => true
  | .ite c t f => if t.sure && f.sure then true else bif tru c.den then t.okR else f.okR
  | .fail => false
theorem ok_of_sure : ∀ {t : Tree SV}, t.sure = true → t.ok = true
  | .ret _, _ => rfl
  | .ite c t f, h => by
    simp only [Tree.sure, Bool.and_eq_true] at h
    simp only [Tree.ok, ok_of_sure h.1, ok_of_sure h.2]
    cases tru c.den <;> rfl
  | .fail, h => by simp [Tree.sure] at h
def SP.leaves : SP → List Value
  | .c x => [x.leaf]
  | .agg cs => leafs cs
def leavesL : List SP → List Value
  | [] => []
  | x :: xs => x.leaves ++ leavesL xs
def SV.leaves : SV → List Value
  | .p x => x.leaves
  | .tup xs => leavesL xs
/-- The leaves of what is handed back. -/
def Tree.outL : Tree SV → List Value
  | .ret v => v.leaves
  | .ite c t f => bif tru c.den then t.outL else f.outL
  | .fail => []
def Tree.fold {β : Type} (d : List Value → β) : Tree SV → β
  | .ret v => d v.leaves
  | .ite c t f => bif tru c.den then t.fold d else f.fold d
  | .fail => d []
theorem fold_eq {β : Type} (d : List Value → β) : ∀ t : Tree SV, d t.outL = t.fold d
  | .ret _ => rfl
  | .ite c t f => by
    simp only [Tree.outL, Tree.fold, ← fold_eq d t, ← fold_eq d f]
    cases tru c.den <;> rfl
  | .fail => rfl
/-- What a function computes, told by its evaluation. -/
theorem spell {β : Type} (d : List Value → β) (t : Tree SV) {x y : β} (h1 : x = d t.outL) (h2 : t.fold d = y) : x = y := h1.trans ((fold_eq d t).trans h2)
theorem okR_eq : ∀ t : Tree SV, t.ok = t.okR
  | .ret _ => rfl
  | .ite c t f => by
    simp only [Tree.ok, Tree.okR]
    split
    · rename_i h
      simp only [Bool.and_eq_true] at h
      rw [ok_of_sure h.1, ok_of_sure h.2]
      cases tru c.den <;> rfl
    · rw [okR_eq t, okR_eq f]
  | .fail => rfl
end Go.Proofs.YtjgmipklbpghfaaDoor
