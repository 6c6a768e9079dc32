/- A symbolic evaluator of the model's code: its definitions. What it computes is proved sound in the texts behind it. No condition. -/
import Derived.Orders
import Derived.Scope
import Derived.WalkKit
import Derived.WalkLawsBesides
import Derived.Laws.Closers25b
import Derived.Laws.StructEq
import Derived.Laws.Cells
import Derived.Below
namespace Go.Proofs.YtdioaiepkhepaaaGreatDoor
open Go.RowKit
inductive SK where
 | i (k : IntKind) | b | s | o
 | l (κs : List SK)
 | q (κs : List SK)
 | f (n : Nat) (κs : List SK)
def isPl : SK → Bool
 | .l _ => false
 | .q _ => false
 | .f _ _ => false
 | _ => true
def isQ : SK → Bool
 | .q _ => true
 | _ => false
inductive SE where
 | val (v : Value) (κ : SK)
 | lit (v : Value)
 | bin (op : BinOp) (k : IntKind) (a b : SE)
 | cmp (op : BinOp) (a b : SE)
 | beq (a b : SE)
 | seq (a b : SE)
 | neg (a : SE)
 | con (a b : SE)
 | cv (k : IntKind) (a : SE)
 | up (k : IntKind) (a : SE)
 | mn (k : IntKind) (a b : SE)
 | mx (k : IntKind) (a b : SE)
 | app (f : Nat) (F : List Value → List Value) (j : Nat) (κ : SK) (args : List SE)
def num : Value → Int | .int _ n => n | _ => 0
def tru : Value → Bool | .bool b => b | _ => false
def str : Value → ByteArray | .string b => b | _ => ⟨#[]⟩
def eqBs : List UInt8 → List UInt8 → Bool
 | [], [] => true
 | a :: x, b :: y => Nat.beq a.toNat b.toNat && eqBs x y
 | _, _ => false
def eqStr (a b : ByteArray) : Bool := eqBs a.data.toList b.data.toList
def binI (op : BinOp) (k : IntKind) (x y : Int) : Int :=
 match op with
 | .add => k.wrap (x + y)
 | .sub => k.wrap (x - y)
 | .mul => k.wrap (x * y)
 | .quo => k.wrap (x.tdiv y)
 | .rem => x.tmod y
 | .shl => k.wrap (x * 2 ^ (Min.min y.toNat k.bits))
 | .shr => x.fdiv (2 ^ (Min.min y.toNat k.bits))
 | .and => bits .and k x y
 | .or => bits .or k x y
 | .xor => bits .xor k x y
 | .andNot => bits .andNot k x y
 | _ => 0
def cmpB (op : BinOp) (x y : Int) : Bool :=
 match op with
 | .eql => x == y
 | .neq => x != y
 | .lss => decide (x < y)
 | .leq => decide (x ≤ y)
 | .gtr => decide (x > y)
 | .geq => decide (x ≥ y)
 | _ => false
def norm : SK → Value → Value
 | .i k, v => .int k (num v)
 | .b, v => .bool (tru v)
 | .s, v => .string (str v)
 | _, v => v
mutual
def SE.den : SE → Value
 | .val v κ => norm κ v
 | .lit v => v
 | .bin op k a b => .int k (binI op k (num a.den) (num b.den))
 | .cmp op a b => .bool (cmpB op (num a.den) (num b.den))
 | .beq a b => .bool (tru a.den == tru b.den)
 | .seq a b => .bool (eqStr (str a.den) (str b.den))
 | .neg a => .bool (!(tru a.den))
 | .con a b => .bool (tru a.den && tru b.den)
 | .cv k a => .int k (k.wrap (num a.den))
 | .up k a => .int k (num a.den)
 | .mn k a b => .int k (if num b.den < num a.den then num b.den else num a.den)
 | .mx k a b => .int k (if num b.den > num a.den then num b.den else num a.den)
 | .app _ F j κ args => norm κ ((F (denL args)).getD j undef)
def denL : List SE → List Value
 | [] => []
 | x :: xs => x.den :: denL xs
end
def SE.kind : SE → Option SK
 | .val _ κ => some κ
 | .lit (.int k _) => some (.i k)
 | .lit (.bool _) => some .b
 | .lit (.string _) => some .s
 | .lit _ => some .o
 | .bin _ k _ _ => some (.i k)
 | .cmp .. => some .b
 | .beq .. => some .b
 | .seq .. => some .b
 | .neg _ => some .b
 | .con .. => some .b
 | .cv k _ => some (.i k)
 | .up k _ => some (.i k)
 | .mn k _ _ => some (.i k)
 | .mx k _ _ => some (.i k)
 | .app _ _ _ κ _ => some κ
inductive Cap where
 | p (b off : Nat)
 | q (x : SE) (off : Nat)
inductive SC where
 | e (x : SE)
 | p (b off : Nat)
 | fn (f : FuncId) (caps : List Cap)
 | sl (b off len cap : Nat)
 | le (x : SE)
 | nl (z : Bool)
 | ar (n : Nat) (k : Option SE)
 | pl (x : SE) (off : Nat)
 | pa (n sz : Nat) (i : SE) (off : Nat)
 | np
inductive SP where
 | c (x : SC)
 | agg (cs : List SC)
inductive SV where
 | p (x : SP)
 | tup (xs : List SP)
 | any
def undefS : SV := .tup []
structure Blk where
 cells : List SC
 elem : TypeId
 own : Bool
 arr : Option (List SK × SE) := none
structure St where
 T : List SV
 H : List (Nat × Blk)
 nx : Nat
 br : Bool := false
inductive Tree (α : Type) where
 | ret (a : α)
 | ite (c : SE) (t f : Tree α)
 | fail
def Tree.bind {α β : Type} : Tree α → (α → Tree β) → Tree β
 | .ret a, k => k a
 | .ite c t f, k => .ite c (t.bind k) (f.bind k)
 | .fail, _ => .fail
def Tree.den {α : Type} : Tree α → Option α
 | .ret a => some a
 | .ite c t f => bif tru c.den then t.den else f.den
 | .fail => none
def find (H : List (Nat × Blk)) (n : Nat) : Option Blk :=
 match H with
 | [] => none
 | (m, x) :: H => if Nat.beq m n then some x else find H n
def del (H : List (Nat × Blk)) (n : Nat) : List (Nat × Blk) :=
 match H with
 | [] => []
 | (m, x) :: H => if Nat.beq m n then del H n else (m, x) :: del H n
def delO (H : List (Nat × Blk)) : Option Nat → List (Nat × Blk)
 | none => H
 | some n => del H n
def updA (H : List (Nat × Blk)) (n : Nat) (κs : List SK) (c : SE) : List (Nat × Blk) :=
 match H with
 | [] => []
 | (m, x) :: H => if Nat.beq m n then (m, { x with arr := some (κs, c) }) :: H else (m, x) :: updA H n κs c
def upd (H : List (Nat × Blk)) (n : Nat) (cs : List SC) : List (Nat × Blk) :=
 match H with
 | [] => []
 | (m, x) :: H => if Nat.beq m n then (m, { x with cells := cs }) :: H else (m, x) :: upd H n cs
def binEqIK : IntKind → IntKind → Bool
 | .i8, .i8 | .i16, .i16 | .i32, .i32 | .i64, .i64 | .u8, .u8 | .u16, .u16 | .u32, .u32 | .u64, .u64 => true
 | _, _ => false
def ofCell (v : Value) : Option SC :=
 match v with
 | .int k n => if decide (k.min ≤ n) && decide (n ≤ k.max) then some (.e (.lit v)) else none
 | .agg _ => none
 | .tuple _ => none
 | .slice none 0 0 => some (.nl true)
 | .pointer none => some .np
 | v => some (.e (.lit v))
def ofCells : List Value → Option (List SC)
 | [] => some []
 | v :: vs => match ofCell v, ofCells vs with
  | some c, some cs => some (c :: cs)
  | _, _ => none
def ofConst (v : Value) : Option SV :=
 match v with
 | .agg cs => (ofCells cs.toList).map fun cs => .p (.agg cs)
 | v => (ofCell v).map fun c => .p (.c c)
def lookT (T : List SV) (x : Operand) : Option SV :=
 match x with
 | .tmp t => T[t]?
 | .const v => ofConst v
 | .global _ => none
 | .func f => some (.p (.c (.fn f [])))
abbrev Get := Operand → Option SV
def getP (g : Get) (x : Operand) : Option SP := match g x with | some (.p y) => some y | _ => none
def getE (g : Get) (x : Operand) : Option SE := match g x with | some (.p (.c (.e y))) => some y | _ => none
def getA (g : Get) (x : Operand) : Option (Nat × Nat) := match g x with | some (.p (.c (.p n off))) => some (n, off) | _ => none
def SP.cells : SP → List SC
 | .c x => [x]
 | .agg cs => cs
def aggT (P : Program) (t : TypeId) : Option Bool := match P.underlying t with
 | some (.struct _) | some (.array _ _) => some true
 | some _ => some false
 | none => none
def sizeT (P : Program) (t : TypeId) : Option Nat := (P.info? t).map (·.size)
def takeC (cs : List SC) (off n : Nat) : Option (List SC) :=
 let r := (cs.drop off).take n
 if Nat.beq r.length n then some r else none
def partS (P : Program) (t : TypeId) (cs : List SC) (off : Nat) : Option SP :=
 match aggT P t with
 | some true => match sizeT P t with
  | some n => (takeC cs off n).map .agg
  | none => none
 | some false => (cs[off]?).map .c
 | none => none
def mkBin (op : BinOp) (k : IntKind) (a b : SE) : SE :=
 match a, b with
 | .lit (.int _ x), .lit (.int _ y) => .lit (.int k (binI op k x y))
 | a, b => .bin op k a b
def mkCmp (op : BinOp) (a b : SE) : SE :=
 match a, b with
 | .lit (.int _ x), .lit (.int _ y) => .lit (.bool (cmpB op x y))
 | a, b => .cmp op a b
def mkBeq (a b : SE) : SE :=
 match a, b with
 | .lit (.bool x), .lit (.bool y) => .lit (.bool (x == y))
 | a, b => .beq a b
def mkSeq (a b : SE) : SE :=
 match a, b with
 | .lit (.string x), .lit (.string y) => .lit (.bool (eqStr x y))
 | a, b => .seq a b
def mkNeg (a : SE) : SE :=
 match a with
 | .lit (.bool x) => .lit (.bool (!x))
 | a => .neg a
def mkCon (a b : SE) : SE :=
 match a, b with
 | .lit (.bool true), b => b
 | .lit (.bool false), _ => .lit (.bool false)
 | a, .lit (.bool true) => a
 | a, b => .con a b
def widens (j k : IntKind) : Bool := decide (k.min ≤ j.min) && decide (j.max ≤ k.max)
def mkCv (k j : IntKind) (a : SE) : SE :=
 match a with
 | .lit (.int _ x) => .lit (.int k (k.wrap x))
 | a => if widens j k then .up k a else .cv k a
inductive Res where
 | val (v : SV)
 | blk (cs : List SC) (t : TypeId)
 | sl (cs : List SC) (t : TypeId) (len : Nat)
 | st (n : Nat) (cs : List SC) (off : Nat) (new : List SC)
 | arr (old : Option Nat) (c : SE) (κs : List SK) (t : TypeId)
 | sta (n : Nat) (c : SE) (κs : List SK)
def vE (x : SE) : Tree Res := .ret (.val (.p (.c (.e x))))
def putC (cs : List SC) (off : Nat) : List SC → List SC
 | [] => cs
 | c :: new => putC (cs.set off c) (off + 1) new
def eqFs (rec : TypeId → SP → SP → Option SE) (P : Program) (xs ys : List SC) : List Field → Option SE
 | [] => some (.lit (.bool true))
 | f :: fs => if f.name == "_" then none else
  match partS P f.type xs f.offset, partS P f.type ys f.offset with
  | some a, some b => match rec f.type a b, eqFs rec P xs ys fs with
   | some c, some d => some (mkCon c d)
   | _, _ => none
  | _, _ => none
def eqEs (rec : TypeId → SP → SP → Option SE) (P : Program) (e : TypeId) (n : Nat) (xs ys : List SC) (i : Nat) : Nat → Option SE
 | 0 => some (.lit (.bool true))
 | len + 1 =>
  match partS P e xs (i * n), partS P e ys (i * n) with
  | some a, some b => match rec e a b, eqEs rec P e n xs ys (i + 1) len with
   | some c, some d => some (mkCon c d)
   | _, _ => none
  | _, _ => none
def eqS (P : Program) : Nat → TypeId → SP → SP → Option SE
 | 0, _, _, _ => none
 | d + 1, t, x, y =>
  match P.underlying t, x, y with
  | some .bool, .c (.e a), .c (.e b) => match a.kind, b.kind with
   | some .b, some .b => some (mkBeq a b)
   | _, _ => none
  | some (.int _), .c (.e a), .c (.e b) => match a.kind, b.kind with
   | some (.i k), some (.i k') => if binEqIK k k' then some (mkCmp .eql a b) else none
   | _, _ => none
  | some (.struct fs), .agg xs, .agg ys => if P.stoodInHeld t then none else eqFs (eqS P d) P xs ys fs.toList
  | some (.array len e), .agg xs, .agg ys => match sizeT P e with
   | some n => eqEs (eqS P d) P e n xs ys 0 len
   | none => none
  | _, _, _ => none
def unsg : IntKind → Bool | .u8 | .u16 | .u32 | .u64 => true | _ => false
def shiftOk (k : IntKind) (b : SE) : Bool := unsg k || match b with | .lit (.int _ n) => decide (0 ≤ n) | _ => false
def isCmp : BinOp → Bool | .eql | .neq | .lss | .leq | .gtr | .geq => true | _ => false
def binE (op : BinOp) (k k' : IntKind) (a b : SE) : Tree Res :=
 match op with
 | .shl | .shr => if shiftOk k' b then vE (mkBin op k a b) else .fail
 | .add | .sub | .mul | .and | .or | .xor | .andNot => if binEqIK k k' then vE (mkBin op k a b) else .fail
 | .quo | .rem => if binEqIK k k' then
  match b with
  | .lit (.int _ n) => if decide (n = 0) then .fail else vE (mkBin op k a b)
  | b => .ite (.cmp .eql b (.lit (.int k 0))) .fail (vE (mkBin op k a b))
  else .fail
 | op => if isCmp op && binEqIK k k' then vE (mkCmp op a b) else .fail
def binStep (P : Program) (op : BinOp) (t : TypeId) (x y : SP) : Tree Res :=
 match x, y with
 | .c (.e a), .c (.e b) =>
  match a.kind, b.kind with
  | some (.i k), some (.i k') => binE op k k' a b
  | some .b, some .b => match op, P.underlying t with
   | .eql, some .bool => vE (mkBeq a b)
   | .neq, some .bool => vE (mkNeg (mkBeq a b))
   | _, _ => .fail
  | some .s, some .s => match op with
   | .eql => vE (mkSeq a b)
   | .neq => vE (mkNeg (mkSeq a b))
   | _ => .fail
  | _, _ => .fail
 | .agg xs, .agg ys =>
  if P.eqGuardType P.depth t then .fail else
  match op, eqS P 10000 t (.agg xs) (.agg ys) with
  | .eql, some c => vE c
  | .neq, some c => vE (mkNeg c)
  | _, _ => .fail
 | _, _ => .fail
def fillS (place : Nat → Option (Nat × Nat)) (cs : List SC) : List (Nat × SP) → Option (List SC)
 | [] => some cs
 | (i, v) :: rest =>
  match place i with
  | none => none
  | some (off, size) =>
   if !(Nat.beq v.cells.length size) || Nat.blt cs.length (off + v.cells.length) then none
   else fillS place (putC cs off v.cells) rest
def getPs (g : Get) : List (Nat × Operand) → Option (List (Nat × SP))
 | [] => some []
 | (i, x) :: l => match getP g x, getPs g l with
  | some v, some r => some ((i, v) :: r)
  | _, _ => none
def placesS (P : Program) : List Field → Option (List (Nat × Nat))
 | [] => some []
 | f :: fs => match sizeT P f.type, placesS P fs with
  | some n, some r => some ((f.offset, n) :: r)
  | _, _ => none
def getCaps (g : Get) : List Operand → Option (List Cap)
 | [] => some []
 | x :: l => match g x, getCaps g l with
  | some (.p (.c (.p n off))), some r => some (.p n off :: r)
  | some (.p (.c (.pl y off))), some r => some (.q y off :: r)
  | _, _ => none
def foldE (F : SE → SE → SE) (k : IntKind) (g : Get) (acc : SE) : List Operand → Option SE
 | [] => some acc
 | x :: l => match getE g x with
  | some y => match y.kind with
   | some (.i k') => if binEqIK k k' then foldE F k g (F acc y) l else none
   | _ => none
  | none => none
def mkMn (k : IntKind) (a b : SE) : SE :=
 match a, b with
 | .lit (.int _ x), .lit (.int _ y) => .lit (.int k (if y < x then y else x))
 | a, b => .mn k a b
def mkMx (k : IntKind) (a b : SE) : SE :=
 match a, b with
 | .lit (.int _ x), .lit (.int _ y) => .lit (.int k (if y > x then y else x))
 | a, b => .mx k a b
def minmax (mk : IntKind → SE → SE → SE) (g : Get) : List Operand → Tree Res
 | x :: l => match getE g x with
  | some a => match a.kind with
   | some (.i k) => match foldE (mk k) k g a l with
    | some r => vE r
    | none => .fail
   | _ => .fail
  | none => .fail
 | [] => .fail
def splitI (e : SE) (k : IntKind) (mk : Nat → Tree Res) (i : Nat) : Nat → Tree Res
 | 0 => .fail
 | c + 1 => .ite (.cmp .eql e (.lit (.int k i))) (mk i) (splitI e k mk (i + 1) c)
def atI (e : SE) (len : Nat) (mk : Nat → Tree Res) : Tree Res :=
 match e with
 | .lit (.int _ j) => if decide (0 ≤ j) && decide (j < len) then mk j.toNat else .fail
 | e => match e.kind with
  | some (.i k) => splitI e k mk 0 len
  | _ => .fail
def repC (zs : List SC) (n : Nat) : List SC := (List.range n).map fun i => zs.getD (i % zs.length) (.e (.lit (.bool false)))
def getSl (g : Get) (x : Operand) : Option (Nat × Nat × Nat) := match g x with | some (.p (.c (.sl n off len _))) => some (n, off, len) | _ => none
inductive PS where
 | c (κ : SK)
 | agg (κs : List SK)
def PS.kinds : PS → List SK
 | .c κ => [κ]
 | .agg κs => κs
def kindsL : List PS → List SK
 | [] => []
 | p :: ps => p.kinds ++ kindsL ps
inductive RS where
 | one (p : PS)
 | tup (ps : List PS)
def RS.kinds : RS → List SK
 | .one p => p.kinds
 | .tup ps => kindsL ps
structure CSum where
 f : FuncId
 F : List Value → List Value
 pre : List Value → Bool
 args : List PS
 res : RS
def els : Value → List Value
 | .agg es => es.toList
 | _ => []
def capF : List Value → List Value
 | [e] => els e
 | _ => []
def capsK (x : SE) : Nat → List SK → List Cap
 | _, [] => []
 | j, κ :: κs => .q (.app 1000013 capF j κ [x]) 0 :: capsK x (j + 1) κs
def cellK (κ : SK) (x : SE) : SC := match κ with
 | .l _ => .le x
 | .q _ => .pl x 0
 | .f n κs => .fn n (capsK x 0 κs)
 | _ => .e x
def appsS (f : Nat) (F : List Value → List Value) (args : List SE) : Nat → List SK → List SC
 | _, [] => []
 | j, κ :: κs => cellK κ (.app f F j κ args) :: appsS f F args (j + 1) κs
def plainFs (P : Program) (r : TypeId → Option (List SK)) : Nat → List (Nat × TypeId) → Option (List SK)
 | _, [] => some []
 | off, f :: fs =>
  match r f.2 with
  | some κs => if f.1 = off ∧ κs.length = P.cellsOf f.2 then (plainFs P r (off + κs.length) fs).map (κs ++ ·) else none
  | none => none
def plainT (P : Program) : Nat → TypeId → Option (List SK)
 | 0, _ => none
 | n + 1, t =>
  match P.underlying t with
  | some .bool => some [.b]
  | some (.int k) => some [.i k]
  | some .string => some [.s]
  | some (.struct fs) => match plainFs P (plainT P n) 0 (fs.toList.map fun f => (f.offset, f.type)) with
   | some κs => if κs.length = P.cellsOf t then some κs else none
   | none => none
  | some (.array m e) => match plainFs P (plainT P n) 0 ((List.range m).map fun i => (i * P.cellsOf e, e)) with
   | some κs => if κs.length = P.cellsOf t then some κs else none
   | none => none
  | _ => none
def putV (cs : List Value) (off : Nat) : List Value → List Value
 | [] => cs
 | c :: new => putV (cs.set off c) (off + 1) new
def lnF : List Value → List Value
 | [l] => [.int .i64 (els l).length]
 | _ => []
def emF : List Value → List Value := fun _ => [.agg #[]]
def ixB : List Value → List Value
 | [l, i] => [.bool (decide (0 ≤ num i) && decide (num i < (els l).length))]
 | _ => []
def ixQ : List Value → List Value
 | [l, i] => [(els l).getD (num i).toNat undef]
 | _ => []
def tkB : List Value → List Value
 | [l, h] => [.bool (decide (0 ≤ num h) && decide (num h ≤ (els l).length))]
 | _ => []
def tkF : List Value → List Value
 | [l, h] => [.agg ((els l).take (num h).toNat).toArray]
 | _ => []
def snF : List Value → List Value
 | l :: cs => [.agg (els l ++ [Value.agg cs.toArray]).toArray]
 | _ => []
def ctF : List Value → List Value
 | [l, m] => [.agg (els l ++ els m).toArray]
 | _ => []
def stF (off : Nat) : List Value → List Value
 | l :: i :: cs => [.agg ((els l).set (num i).toNat (.agg (putV (els ((els l).getD (num i).toNat undef)) off cs).toArray)).toArray]
 | _ => []
def roB (bytes : Nat) : List Value → List Value
 | [l] => [.bool (decide ((els l).length * bytes ≤ 140737488355328) && decide ((els l).length ≤ 9223372036854775807))]
 | _ => []
def mkB (bytes : Nat) : List Value → List Value
 | [n, c] => [.bool (decide (0 ≤ num n) && decide (num n ≤ num c) && decide (bytes * num c ≤ 140737488355328) && decide (num c ≤ 9223372036854775807))]
 | _ => []
def rpF (zs : List Value) : List Value → List Value
 | [n] => [.agg (List.replicate (num n).toNat (.agg zs.toArray)).toArray]
 | _ => []
def qF : List Value → List Value
 | [e] => els e
 | _ => []
def pkF : List Value → List Value := fun cs => [.agg cs.toArray]
def preF (p : List Value → Bool) (vs : List Value) : List Value := [.bool (p vs)]
def nilE (κs : List SK) : SE := .app 1000001 emF 0 (.l κs) []
def takeE (κs : List SK) (c : SE) : Option SE → SE
 | none => c
 | some k => .app 1000004 tkF 0 (.l κs) [c, k]
def elemE (κs : List SK) (c i : SE) : SE := .app 1000003 ixQ 0 (.q κs) [c, i]
def lenE (c : SE) : SE := .app 1000000 lnF 0 (.i .i64) [c]
mutual
def eqSK : SK → SK → Bool
 | .i k, .i k' => binEqIK k k'
 | .b, .b => true
 | .s, .s => true
 | .o, .o => true
 | .l x, .l y => eqSKs x y
 | .q x, .q y => eqSKs x y
 | .f n x, .f m y => Nat.beq n m && eqSKs x y
 | _, _ => false
def eqSKs : List SK → List SK → Bool
 | [], [] => true
 | x :: l, y :: r => eqSK x y && eqSKs l r
 | _, _ => false
end
def getC (g : Get) (x : Operand) : Option SC := match g x with | some (.p (.c c)) => some c | _ => none
def loadQ (P : Program) (t : TypeId) (y : SE) (off : Nat) : Tree Res :=
 match y.kind with
 | some (.q κs) => match aggT P t, sizeT P t with
  | some true, some n => if Nat.ble (off + n) κs.length then .ret (.val (.p (.agg (appsS 2000000 qF [y] off ((κs.drop off).take n))))) else .fail
  | some false, _ => match κs[off]? with
   | some κ => .ret (.val (.p (.c (cellK κ (.app 2000000 qF off κ [y])))))
   | none => .fail
  | _, _ => .fail
 | _ => .fail
def fieldC (P : Program) (s : TypeId) (f : Nat) (mk : Nat → SC) : Tree Res :=
 match P.underlying s with
 | some (.struct fs) => match fs[f]? with
  | some fl => match sizeT P fl.type with
   | some (_ + 1) => .ret (.val (.p (.c (mk fl.offset))))
   | _ => .fail
  | none => .fail
 | _ => .fail
def isRefC : SC → Bool
 | .p .. | .pl .. | .pa .. => true
 | _ => false
def nilEq : SC → SC → Option Bool
 | .np, .np => some true
 | .np, c => if isRefC c then some false else none
 | c, .np => if isRefC c then some false else none
 | _, _ => none
def roStep (P : Program) (g : Get) (op : Op) : Option (Tree Res) :=
 match op with
 | .load t x => match getC g x with
  | some (.pl y off) => some (loadQ P t y off)
  | _ => none
 | .fieldAddr s x f => match getC g x with
  | some (.pl y off) => some (fieldC P s f fun o => .pl y (off + o))
  | some (.pa n sz i off) => some (fieldC P s f fun o => .pa n sz i (off + o))
  | _ => none
 | .indexAddr t x i => match getC g x with
  | some (.le y) => some (match P.underlying t, getE g i, y.kind with
   | some (.slice e), some j, some (.l κs) => match sizeT P e, j.kind with
    | some s, some (.i _) => if Nat.beq s κs.length then .ite (.app 1000002 ixB 0 .b [y, j]) (.ret (.val (.p (.c (.pl (elemE κs y j) 0))))) .fail else .fail
    | _, _ => .fail
   | _, _, _ => .fail)
  | some (.pl y off) => some (match P.underlying t, getE g i with
   | some (.array len e), some j => match sizeT P e with
    | some s => atI j len fun q => .ret (.val (.p (.c (.pl y (off + q * s)))))
    | none => .fail
   | _, _ => .fail)
  | _ => none
 | .call c => match c.callee with
  | .builtin .len => match c.argTypes.toList, c.args.toList with
   | [t], [x] => match getC g x with
    | some (.le y) => some (match P.underlying t, y.kind with
     | some (.slice _), some (.l _) => vE (lenE y)
     | _, _ => .fail)
    | some (.nl _) => some (match P.underlying t with
     | some (.slice _) => vE (.lit (.int .i64 0))
     | _ => .fail)
    | _ => none
   | _, _ => none
  | _ => none
 | .binOp op t x y _ => match getC g x, getC g y with
  | some a, some b => match nilEq a b with
   | some r => some (match P.underlying t, op with
    | some (.pointer _), .eql => vE (.lit (.bool r))
    | some (.pointer _), .neq => vE (.lit (.bool (!r)))
    | _, _ => .fail)
   | none => match a, b with
    | .le y, .nl true => some (match P.underlying t, op, y.kind with
     | some (.slice _), .eql, some (.l _) => .ite (.app 1000002 ixB 0 .b [y, .lit (.int .i64 0)]) (vE (.lit (.bool false))) .fail
     | some (.slice _), .neq, some (.l _) => .ite (.app 1000002 ixB 0 .b [y, .lit (.int .i64 0)]) (vE (.lit (.bool true))) .fail
     | _, _, _ => .fail)
    | _, _ => none
  | _, _ => none
 | .slice t x lo hi mx => match getC g x with
  | some (.le y) => some (match P.underlying t, y.kind, lo, hi, mx with
   | some (.slice e), some (.l κs), none, some h, none => match getE g h, sizeT P e with
    | some h, some _ => match h.kind with
     | some (.i _) => .ite (.app 1000012 tkB 0 .b [y, h]) (.ret (.val (.p (.c (.le (takeE κs y (some h))))))) .fail
     | _ => .fail
    | _, _ => .fail
   | _, _, _, _, _ => .fail)
  | _ => none
 | .nilCheck x => match getC g x with
  | some (.pl y off) => some (.ret (.val (.p (.c (.pl y off)))))
  | some (.pa n sz i off) => some (.ret (.val (.p (.c (.pa n sz i off)))))
  | _ => none
 | _ => none
def flat1 (κ : SK) (c : SC) : Option SE :=
 match c with
 | .e x => match x.kind with
  | some κ' => if eqSK κ κ' && isPl κ then some x else none
  | none => none
 | .le x => match κ, x.kind with
  | .l κs, some (.l κs') => if eqSKs κs κs' then some x else none
  | _, _ => none
 | .nl _ => match κ with
  | .l κs => some (nilE κs)
  | _ => none
 | .pl x off => match κ, x.kind with
  | .q κs, some (.q κs') => if eqSKs κs κs' && Nat.beq off 0 then some x else none
  | _, _ => none
 | _ => none
def flat1s : List SK → List SC → Option (List SE)
 | [], [] => some []
 | κ :: κs, c :: cs => match flat1 κ c, flat1s κs cs with
  | some x, some r => some (x :: r)
  | _, _ => none
 | _, _ => none
def repK : Nat → List SK → List SK
 | 0, _ => []
 | n + 1, κs => κs ++ repK n κs
def chunkV (k : Nat) : Nat → List Value → List Value
 | 0, _ => []
 | n + 1, vs => .agg (vs.take k).toArray :: chunkV k n (vs.drop k)
def lsF (k n : Nat) : List Value → List Value := fun vs => [.agg (chunkV k n vs).toArray]
def flatA (H : List (Nat × Blk)) (κ : SK) (c : SC) : Option SE :=
 match c with
 | .ar n k => match κ, find H n with
  | .l κs, some b => match b.arr with
   | some (κs', x) => if eqSKs κs κs' then some (takeE κs x k) else none
   | none => none
  | _, _ => none
 | c => flat1 κ c
def flatAs (H : List (Nat × Blk)) : List SK → List SC → Option (List SE)
 | [], [] => some []
 | κ :: κs, c :: cs => match flatA H κ c, flatAs H κs cs with
  | some x, some r => some (x :: r)
  | _, _ => none
 | _, _ => none
def flat0 (H : List (Nat × Blk)) (κ : SK) (c : SC) : Option SE :=
 match c with
 | .ar n k => match κ, find H n with
  | .l κs, some b => match b.arr with
   | some (κs', x) => if eqSKs κs κs' then some (takeE κs x k) else none
   | none => none
  | _, _ => none
 | .p n off => match κ, find H n with
  | .q κs, some b => match b.arr with
   | none => if Nat.beq off 0 then (flatAs H κs b.cells).map (fun xs => .app 1000011 pkF 0 (.q κs) xs) else none
   | some _ => none
  | _, _ => none
 | .sl n off len cap => match κ, find H n with
  | .l κs, some b => match b.arr with
   | none => if Nat.beq off 0 && (Nat.ble len 4096 && Nat.ble len cap) then (flat1s (repK len κs) b.cells).map (fun xs => .app (1010000 + len) (lsF κs.length len) 0 (.l κs) xs) else none
   | some _ => none
  | _, _ => none
 | c => flat1 κ c
def Cap.sc : Cap → SC
 | .p n off => .p n off
 | .q x off => .pl x off
def arN : List SC → List Nat
 | [] => []
 | .ar n _ :: l => n :: arN l
 | _ :: l => arN l
def lent0 (H : List (Nat × Blk)) : SC → List Nat
 | .ar n _ => [n]
 | .p n _ => n :: (match find H n with
  | some b => arN b.cells
  | none => [])
 | .sl n _ _ _ => [n]
 | _ => []
def lentCaps (H : List (Nat × Blk)) : List Cap → List Nat
 | [] => []
 | c :: cs => lent0 H c.sc ++ lentCaps H cs
def lentC (H : List (Nat × Blk)) : SC → List Nat
 | .fn _ caps => lentCaps H caps
 | c => lent0 H c
def flatCaps (H : List (Nat × Blk)) : List SK → List Cap → Option (List SE)
 | [], [] => some []
 | κ :: κs, c :: cs => match flat0 H κ c.sc, flatCaps H κs cs with
  | some x, some r => some (x :: r)
  | _, _ => none
 | _, _ => none
def flatC (H : List (Nat × Blk)) (κ : SK) (c : SC) : Option SE :=
 match c with
 | .fn f caps => match κ with
  | .f n κs => if Nat.beq n f && κs.all isQ then (flatCaps H κs caps).map (fun xs => .app 1000011 pkF 0 (.f n κs) xs) else none
  | _ => none
 | c => flat0 H κ c
def flatCs (H : List (Nat × Blk)) : List SK → List SC → Option (List SE)
 | [], [] => some []
 | κ :: κs, c :: cs => match flatC H κ c, flatCs H κs cs with
  | some x, some r => some (x :: r)
  | _, _ => none
 | _, _ => none
def isAr (g : Get) (x : Operand) : Bool := match getC g x with | some (.ar ..) => true | _ => false
def isPa (g : Get) (x : Operand) : Bool := match getC g x with | some (.pa ..) => true | _ => false
def arOp (g : Get) (op : Op) : Bool :=
 match op with
 | .load _ x => isPa g x
 | .store _ x _ => isPa g x
 | .indexAddr _ x _ => isAr g x
 | .slice _ x _ _ _ => isAr g x
 | .makeSlice .. => true
 | .call c => match c.callee with
  | .builtin .append => true
  | .builtin .len => match c.args.toList with
   | [x] => isAr g x
   | _ => false
  | _ => false
 | _ => false
def getAr (H : List (Nat × Blk)) (n : Nat) : Option (Blk × List SK × SE) := match find H n with
 | some b => match b.arr with
  | some (κs, c) => some (b, κs, c)
  | none => none
 | none => none
def newsE (H : List (Nat × Blk)) (κs : List SK) (c0 : SE) (x : SC) : Option SE :=
 match x with
 | .sl m off len _ => match find H m with
  | some b => match b.arr with
   | none => if Nat.beq len 1 then match takeC b.cells off κs.length with
    | some cs => (flat1s κs cs).map fun xs => .app 1000005 snF 0 (.l κs) (c0 :: xs)
    | none => none
    else none
   | some _ => none
  | none => none
 | .le y => match y.kind with
  | some (.l κs') => if eqSKs κs κs' then some (.app 1000006 ctF 0 (.l κs) [c0, y]) else none
  | _ => none
 | .ar n k => match getAr H n with
  | some (_, κs', c) => if eqSKs κs κs' then some (.app 1000006 ctF 0 (.l κs) [c0, takeE κs c k]) else none
  | none => none
 | _ => none
def oldE (H : List (Nat × Blk)) (κs : List SK) (e : TypeId) (x : SC) : Option (Option Nat × SE) :=
 match x with
 | .nl true => some (none, nilE κs)
 | .ar n k => match getAr H n with
  | some (bl, κs', c) => if eqSKs κs κs' && bl.own && Nat.beq bl.elem e then some (some n, takeE κs c k) else none
  | none => none
 | _ => none
def arStep (P : Program) (H : List (Nat × Blk)) (g : Get) (op : Op) : Tree Res :=
 match op with
 | .load t x => match getC g x with
  | some (.pa n sz i off) => match getAr H n with
   | some (_, κs, c) => if Nat.beq sz κs.length then loadQ P t (elemE κs c i) off else .fail
   | none => .fail
  | _ => .fail
 | .store t x y => match getC g x, getP g y with
  | some (.pa n sz i off), some v => match getAr H n, sizeT P t with
   | some (bl, κs, c), some k => if Nat.beq sz κs.length && bl.own && Nat.beq v.cells.length k && Nat.ble (off + k) κs.length then
    match flat1s ((κs.drop off).take k) v.cells with
    | some xs => .ret (.sta n (.app (1000100 + off) (stF off) 0 (.l κs) (c :: i :: xs)) κs)
    | none => .fail
    else .fail
   | _, _ => .fail
  | _, _ => .fail
 | .indexAddr t x i => match getC g x, P.underlying t, getE g i with
  | some (.ar n k), some (.slice e), some j => match getAr H n, sizeT P e, j.kind with
   | some (_, κs, c), some s, some (.i _) => if Nat.beq s κs.length then .ite (.app 1000002 ixB 0 .b [takeE κs c k, j]) (.ret (.val (.p (.c (.pa n s j 0))))) .fail else .fail
   | _, _, _ => .fail
  | _, _, _ => .fail
 | .slice t x lo hi mx => match getC g x, P.underlying t, lo, hi with
  | some (.ar n k), some (.slice e), none, some h => match getAr H n, getE g h, mx, sizeT P e with
   | some (_, κs, c), some h, none, some _ => match h.kind with
    | some (.i _) => .ite (.app 1000012 tkB 0 .b [takeE κs c k, h]) (.ret (.val (.p (.c (.ar n (some h)))))) .fail
    | _ => .fail
   | _, _, _, _ => .fail
  | _, _, _, _ => .fail
 | .makeSlice t len cap => match P.underlying t, getE g len, getE g cap with
  | some (.slice e), some n, some c => match P.info? e, plainT P 8 e, n.kind, c.kind with
   | some i, some κs, some (.i _), some (.i _) => match i.zero with
    | some z => match ofCells z.cells.toList with
     | some zs => match flat1s κs zs with
      | some _ => if Nat.beq i.size κs.length && Nat.blt 0 i.size then .ite (.app (8000000 + i.bytes) (mkB i.bytes) 0 .b [n, c]) (.ret (.arr none (.app (9000000 + e) (rpF z.cells.toList) 0 (.l κs) [n]) κs e)) .fail else .fail
      | none => .fail
     | none => .fail
    | none => .fail
   | _, _, _, _ => .fail
  | _, _, _ => .fail
 | .call c => match c.callee with
  | .builtin .len => match c.argTypes.toList, c.args.toList with
   | [t], [x] => match getC g x, P.underlying t with
    | some (.ar n k), some (.slice _) => match getAr H n with
     | some (_, κs, c) => vE (lenE (takeE κs c k))
     | none => .fail
    | _, _ => .fail
   | _, _ => .fail
  | .builtin .append => match c.argTypes.toList, c.args.toList with
   | [t, t'], [x, y] => match P.underlying t, getC g x, getC g y with
    | some (.slice e), some a, some b => match P.info? e, plainT P 8 e with
     | some i, some κs => match i.zero with
      | some z => if Nat.beq t t' && Nat.beq i.size κs.length && Nat.blt 0 i.size && Nat.beq z.cells.size i.size && Nat.blt 0 i.bytes then
       match oldE H κs e a with
       | some (old, c0) => match newsE H κs c0 b with
        | some c1 => .ite (.app (7000000 + i.bytes) (roB i.bytes) 0 .b [c1]) (.ret (.arr old c1 κs e)) .fail
        | none => .fail
       | none => .fail
       else .fail
      | none => .fail
     | _, _ => .fail
    | _, _, _ => .fail
   | _, _ => .fail
  | _ => .fail
 | _ => .fail
def pureStep (P : Program) (H : List (Nat × Blk)) (g : Get) (op : Op) : Tree Res :=
 match op with
 | .move x | .assign x => match g x with
  | some v => .ret (.val v)
  | none => .fail
 | .pick c a b => match getE g c with
  | some (.lit (.bool true)) => match g a with | some v => .ret (.val v) | none => .fail
  | some (.lit (.bool false)) => match g b with | some v => .ret (.val v) | none => .fail
  | some c => match c.kind, g a, g b with
   | some .b, some u, some v => .ite c (.ret (.val u)) (.ret (.val v))
   | _, _, _ => .fail
  | none => .fail
 | .alloc t => match (P.info? t).bind (·.zero) with
  | some v => match ofCells v.cells.toList with
   | some cs => .ret (.blk cs t)
   | none => .fail
  | none => .fail
 | .box t x => match getP g x with
  | some v => .ret (.blk v.cells t)
  | none => .fail
 | .build t parts => match (P.info? t).bind (·.zero), getPs g parts.toList with
  | some z, some ps => match ofCells z.cells.toList, P.underlying t with
   | some zs, some (.struct fs) => match placesS P fs.toList with
    | some pl => match fillS (fun i => pl[i]?) zs ps with
     | some cs => .ret (.val (.p (.agg cs)))
     | none => .fail
    | none => .fail
   | some zs, some (.array _ e) => match sizeT P e with
    | some n => match fillS (fun i => some (i * n, n)) zs ps with
     | some cs => .ret (.val (.p (.agg cs)))
     | none => .fail
    | none => .fail
   | _, _ => .fail
  | _, _ => .fail
 | .load t x => match getA g x with
  | some (n, off) => match find H n with
   | some b => match partS P t b.cells off with
    | some v => .ret (.val (.p v))
    | none => .fail
   | none => .fail
  | none => .fail
 | .store t x y => match getA g x, getP g y with
  | some (n, off), some v => match find H n, sizeT P t with
   | some b, some k => if b.own && Nat.beq v.cells.length k && Nat.ble (off + k) b.cells.length then .ret (.st n b.cells off v.cells) else .fail
   | _, _ => .fail
  | _, _ => .fail
 | .nilCheck x => match g x with
  | some (.p (.c (.p n off))) => .ret (.val (.p (.c (.p n off))))
  | some (.p (.c (.fn f c))) => .ret (.val (.p (.c (.fn f c))))
  | _ => .fail
 | .binOp op t x y _ => match getP g x, getP g y with
  | some a, some b => binStep P op t a b
  | _, _ => .fail
 | .unOp .neg _ x => match getE g x with
  | some a => match a.kind with
   | some (.i k) => vE (mkBin .sub k (.lit (.int k 0)) a)
   | _ => .fail
  | none => .fail
 | .unOp .not _ x => match getE g x with
  | some a => match a.kind with
   | some .b => vE (mkNeg a)
   | _ => .fail
  | none => .fail
 | .convert src dst x => match P.underlying src, P.underlying dst, getE g x with
  | some (.int _), some (.int k), some a => match a.kind with
   | some (.i j) => vE (mkCv k j a)
   | _ => .fail
  | _, _, _ => .fail
 | .fieldAddr s x f => match P.underlying s, getA g x with
  | some (.struct fs), some (n, off) => match fs[f]? with
   | some fl => match sizeT P fl.type with
    | some (_ + 1) => .ret (.val (.p (.c (.p n (off + fl.offset)))))
    | _ => .fail
   | none => .fail
  | _, _ => .fail
 | .field t x f => match P.underlying t, getP g x with
  | some (.struct fs), some (.agg cs) => match fs[f]? with
   | some fl => match partS P fl.type cs fl.offset with
    | some v => .ret (.val (.p v))
    | none => .fail
   | none => .fail
  | _, _ => .fail
 | .indexAddr t x i => match P.underlying t, getE g i with
  | some (.array len e), some j => match getA g x, sizeT P e with
   | some (n, off), some s => atI j len fun q => .ret (.val (.p (.c (.p n (off + q * s)))))
   | _, _ => .fail
  | some (.slice e), some j => match getSl g x, sizeT P e with
   | some (n, off, len), some s => atI j len fun q => .ret (.val (.p (.c (.p n (off + q * s)))))
   | _, _ => .fail
  | _, _ => .fail
 | .index t x i => match P.underlying t, getP g x, getE g i with
  | some (.array len e), some (.agg cs), some j => match sizeT P e with
   | some s => atI j len fun q => match partS P e cs (q * s) with
    | some v => .ret (.val (.p v))
    | none => .fail
   | none => .fail
  | _, _, _ => .fail
 | .buildSlice t len parts => match P.underlying t, getPs g parts.toList with
  | some (.slice e), some ps => match sizeT P e, (P.info? e).bind (·.zero) with
   | some (n + 1), some z => if Nat.ble (len * (n + 1)) 4096 && Nat.blt 0 len then
    match ofCells z.cells.toList with
    | some zs => if Nat.beq zs.length (n + 1) then match fillS (fun i => some (i * (n + 1), n + 1)) (repC zs (len * (n + 1))) ps with
     | some cs => .ret (.sl cs e len)
     | none => .fail
     else .fail
    | none => .fail
    else .fail
   | _, _ => .fail
  | _, _ => .fail
 | .extract x i => match g x with
  | some (.tup xs) => match xs[i]? with
   | some v => .ret (.val (.p v))
   | none => .fail
  | _ => .fail
 | .makeFunc (.func f) first captured => match first.toList, getCaps g captured.toList with
  | [], some caps => .ret (.val (.p (.c (.fn f caps))))
  | _, _ => .fail
 | .call c => match c.callee with
  | .builtin .min => minmax mkMn g c.args.toList
  | .builtin .max => minmax mkMx g c.args.toList
  | .builtin .len => match c.argTypes.toList, c.args.toList with
   | [t], [x] => match P.underlying t with
    | some (.array n _) => if Nat.ble n 1000000 then vE (.lit (.int .i64 n)) else .fail
    | some (.slice _) => match getSl g x with
     | some (_, _, n) => if Nat.ble n 1000000 then vE (.lit (.int .i64 n)) else .fail
     | none => .fail
    | _ => .fail
   | _, _ => .fail
  | _ => .fail
 | _ => .fail
def PS.pack : PS → List Value → Value
 | .c _, vs => vs.headD undef
 | .agg κs, vs => .agg (vs.take κs.length).toArray
def packL : List PS → List Value → List Value
 | [], _ => []
 | p :: ps, vs => p.pack vs :: packL ps (vs.drop p.kinds.length)
def RS.pack : RS → List Value → Value
 | .one p, vs => p.pack vs
 | .tup ps, vs => .tuple (packL ps vs).toArray
structure Sum where
 f : FuncId
 F : List Value → List Value
 args : List PS
 res : RS
def flatP (H : List (Nat × Blk)) (p : PS) (v : SP) : Option (List SE) :=
 match p, v with
 | .c κ, .c x => flatCs H [κ] [x]
 | .agg κs, .agg cs => flatCs H κs cs
 | _, _ => none
def flatL (H : List (Nat × Blk)) : List PS → List SV → Option (List SE)
 | [], [] => some []
 | p :: ps, .p v :: vs => match flatP H p v, flatL H ps vs with
  | some a, some b => some (a ++ b)
  | _, _ => none
 | _, _ => none
def mkP (f : Nat) (F : List Value → List Value) (args : List SE) (n j : Nat) : PS → SP
 | .c (.l _) => .c (.ar n none)
 | .c κ => .c (.e (.app f F j κ args))
 | .agg κs => .agg (appsS f F args j κs)
def mkPs (f : Nat) (F : List Value → List Value) (args : List SE) (n j : Nat) : List PS → List SP
 | [] => []
 | p :: ps => mkP f F args n j p :: mkPs f F args n (j + p.kinds.length) ps
def mkR (f : Nat) (F : List Value → List Value) (args : List SE) (n : Nat) : RS → SV
 | .one p => .p (mkP f F args n 0 p)
 | .tup ps => .tup (mkPs f F args n 0 ps)
def RS.parts : RS → List PS
 | .one p => [p]
 | .tup ps => ps
def arrsOf : Nat → List PS → List (Nat × List SK)
 | _, [] => []
 | j, .c (.l κs) :: ps => (j, κs) :: arrsOf (j + 1) ps
 | j, p :: ps => arrsOf (j + p.kinds.length) ps
def plainR : List PS → Bool
 | [] => true
 | .c (.l κs) :: ps => κs.all isPl && plainR ps
 | p :: ps => p.kinds.all isPl && plainR ps
def resElems (P : Program) (f : FuncId) : List TypeId := match P.funcs[f]? with
 | some fn => fn.resultTypes.toList.filterMap fun t => match P.underlying t with
  | some (.slice e) => some e
  | _ => none
 | none => []
def retS (P : Program) (f : FuncId) (F : List Value → List Value) (xs : List SE) (R : RS) (H : List (Nat × Blk)) (nx : Nat) : Tree (SV × List (Nat × Blk) × Nat) :=
 if plainR R.parts then
  match arrsOf 0 R.parts with
  | [] => .ret (mkR f F xs nx R, H, nx)
  | [(j, κs)] => match resElems P f with
   | [e] => .ret (mkR f F xs nx R, (nx, { cells := [], elem := e, own := true, arr := some (κs, .app f F j (.l κs) xs) }) :: H, nx + 1)
   | _ => .fail
  | _ => .fail
 else .fail
def findS (S : List Sum) (f : FuncId) : Option Sum :=
 match S with
 | [] => none
 | s :: S => if Nat.beq s.f f then some s else findS S f
def pickC (H : List (Nat × Blk)) (S : List CSum) (f : FuncId) (args : List SV) : Option (CSum × List SE) :=
 match S with
 | [] => none
 | s :: S => if Nat.beq s.f f then match flatL H s.args args with
  | some xs => some (s, xs)
  | none => pickC H S f args
  else pickC H S f args
inductive Xt where
 | normal | exit (id : Nat) | ret
def eqXt : Xt → Xt → Bool
 | .normal, .normal => true
 | .exit a, .exit b => Nat.beq a b
 | .ret, .ret => true
 | _, _ => false
inductive PC where
 | h (κ : SK)
 | p (b off : Nat)
 | fn (f : FuncId) (κss : List (List SK))
 | ar (n : Nat) (κs : List SK) (t : TypeId)
 | np
inductive PP where
 | c (x : PC)
 | agg (xs : List PC)
inductive ShV where
 | p (x : PP)
 | tup (xs : List PP)
 | any
structure PB where
 cells : List PC
 elem : TypeId
 own : Bool
 arr : Option (List SK)
structure Shp where
 T : List ShV
 H : List (Nat × PB)
def PC.kinds : PC → List SK
 | .h κ => [κ]
 | .fn _ κss => κss.map .q
 | _ => []
def kindsCs : List PC → List SK
 | [] => []
 | c :: cs => c.kinds ++ kindsCs cs
def PP.kinds : PP → List SK
 | .c x => x.kinds
 | .agg xs => kindsCs xs
def kindsPs : List PP → List SK
 | [] => []
 | c :: cs => c.kinds ++ kindsPs cs
def ShV.kinds : ShV → List SK
 | .p x => x.kinds
 | .tup xs => kindsPs xs
 | .any => []
def kindsVs : List ShV → List SK
 | [] => []
 | c :: cs => c.kinds ++ kindsVs cs
def PB.kinds (b : PB) : List SK := match b.arr with
 | none => kindsCs b.cells
 | some κs => [.l κs]
def kindsH : List (Nat × PB) → List SK
 | [] => []
 | c :: cs => c.2.kinds ++ kindsH cs
def Shp.kinds (s : Shp) : List SK := kindsVs s.T ++ kindsH s.H
section
variable (θ : Nat → Nat) (mk : Nat → SK → SE)
def instCaps (j : Nat) : List (List SK) → List Cap
 | [] => []
 | κs :: r => .q (mk j (.q κs)) 0 :: instCaps (j + 1) r
def PC.inst (j : Nat) : PC → SC
 | .h κ => cellK κ (mk j κ)
 | .p b off => .p (θ b) off
 | .fn f κss => .fn f (instCaps mk j κss)
 | .ar n _ _ => .ar (θ n) none
 | .np => .np
def instCs (j : Nat) : List PC → List SC
 | [] => []
 | c :: cs => c.inst θ mk j :: instCs (j + c.kinds.length) cs
def PP.inst (j : Nat) : PP → SP
 | .c x => .c (x.inst θ mk j)
 | .agg xs => .agg (instCs θ mk j xs)
def instPs (j : Nat) : List PP → List SP
 | [] => []
 | c :: cs => c.inst θ mk j :: instPs (j + c.kinds.length) cs
def ShV.inst (j : Nat) : ShV → SV
 | .p x => .p (x.inst θ mk j)
 | .tup xs => .tup (instPs θ mk j xs)
 | .any => .any
def instVs (j : Nat) : List ShV → List SV
 | [] => []
 | c :: cs => c.inst θ mk j :: instVs (j + c.kinds.length) cs
def PB.inst (j : Nat) (b : PB) : Blk := match b.arr with
 | none => { cells := instCs θ mk j b.cells, elem := b.elem, own := b.own }
 | some κs => { cells := [], elem := b.elem, own := b.own, arr := some (κs, mk j (.l κs)) }
def instH (j : Nat) : List (Nat × PB) → List (Nat × Blk)
 | [] => []
 | c :: cs => (θ c.1, c.2.inst θ mk j) :: instH (j + c.2.kinds.length) cs
def Shp.inst (s : Shp) (j nx : Nat) : St := { T := instVs θ mk j s.T, H := instH θ mk (j + (kindsVs s.T).length) s.H, nx, br := true }
end
structure LoopC where
 f : FuncId
 key : Nat
 F : List Value → List Value
 pre : List Value → Bool
 np : Nat
 head : Shp
 outs : List (Xt × Shp × Nat)
structure Env where
 cs : List CSum
 ls : List LoopC
def noEnv : Env := ⟨[], []⟩
structure MSt where
 θ : List (Nat × Nat)
 fz : List Nat
 H : List (Nat × Blk)
 nx : Nat
def lookN : List (Nat × Nat) → Nat → Option Nat
 | [], _ => none
 | (a, b) :: l, n => if Nat.beq a n then some b else lookN l n
def bindN (θ : List (Nat × Nat)) (b n : Nat) : Option (List (Nat × Nat)) :=
 match lookN θ b with
 | some m => if Nat.beq m n then some θ else none
 | none => if θ.any fun p => Nat.beq p.2 n then none else some ((b, n) :: θ)
def matchCaps (m : MSt) : List (List SK) → List Cap → Option (MSt × List SE)
 | [], [] => some (m, [])
 | κs :: r, c :: l =>
  match flatC m.H (.q κs) c.sc with
  | some x => match matchCaps { m with fz := lentC m.H c.sc ++ m.fz } r l with
   | some (m', xs) => some (m', x :: xs)
   | none => none
  | none => none
 | _, _ => none
def matchC (m : MSt) (p : PC) (c : SC) : Option (MSt × List SE) :=
 match p with
 | .h κ => match flatC m.H κ c with
  | some x => some ({ m with fz := lentC m.H c ++ m.fz }, [x])
  | none => none
 | .p b off => match c with
  | .p n o => if Nat.beq off o then (bindN m.θ b n).map fun θ => ({ m with θ }, []) else none
  | _ => none
 | .fn f κss => match c with
  | .fn f' caps => if Nat.beq f f' then matchCaps m κss caps else none
  | _ => none
 | .ar b κs t => match c with
  | .ar n none => (bindN m.θ b n).map fun θ => ({ m with θ }, [])
  | .nl true => match bindN m.θ b m.nx with
   | some θ => if κs.all isPl then some ({ m with θ, H := (m.nx, { cells := [], elem := t, own := true, arr := some (κs, nilE κs) }) :: m.H, nx := m.nx + 1 }, []) else none
   | none => none
  | _ => none
 | .np => match c with
  | .np => some (m, [])
  | _ => none
def matchCs (m : MSt) : List PC → List SC → Option (MSt × List SE)
 | [], [] => some (m, [])
 | p :: ps, c :: cs => match matchC m p c with
  | some (m1, xs) => match matchCs m1 ps cs with
   | some (m2, ys) => some (m2, xs ++ ys)
   | none => none
  | none => none
 | _, _ => none
def matchP (m : MSt) (p : PP) (v : SP) : Option (MSt × List SE) :=
 match p, v with
 | .c p, .c c => matchC m p c
 | .agg ps, .agg cs => matchCs m ps cs
 | _, _ => none
def matchPs (m : MSt) : List PP → List SP → Option (MSt × List SE)
 | [], [] => some (m, [])
 | p :: ps, c :: cs => match matchP m p c with
  | some (m1, xs) => match matchPs m1 ps cs with
   | some (m2, ys) => some (m2, xs ++ ys)
   | none => none
  | none => none
 | _, _ => none
def matchV (m : MSt) (p : ShV) (v : SV) : Option (MSt × List SE) :=
 match p, v with
 | .any, _ => some (m, [])
 | .p p, .p v => matchP m p v
 | .tup ps, .tup vs => matchPs m ps vs
 | _, _ => none
def matchVs (m : MSt) : List ShV → List SV → Option (MSt × List SE)
 | [], [] => some (m, [])
 | p :: ps, c :: cs => match matchV m p c with
  | some (m1, xs) => match matchVs m1 ps cs with
   | some (m2, ys) => some (m2, xs ++ ys)
   | none => none
  | none => none
 | _, _ => none
def matchB (m : MSt) (p : PB) (b : Blk) : Option (MSt × List SE) :=
 if Nat.beq b.elem p.elem && (!p.own || b.own) then
  match p.arr, b.arr with
  | none, none => matchCs m p.cells b.cells
  | some κs, some (κs', c) => if eqSKs κs κs' && b.cells.isEmpty then some (m, [c]) else none
  | _, _ => none
 else none
def matchH (m : MSt) : List (Nat × PB) → Option (MSt × List SE)
 | [] => some (m, [])
 | (k, p) :: r => match lookN m.θ k with
  | none => none
  | some n => match find m.H n with
   | none => none
   | some b => match matchB m p b with
    | none => none
    | some (m1, xs) => match matchH m1 r with
     | some (m2, ys) => some (m2, xs ++ ys)
     | none => none
def matchSh (s : St) (sh : Shp) (np : Nat) : Option (MSt × List SE) :=
 match matchVs ⟨[], [], s.H, s.nx⟩ sh.T s.T with
 | some (m, xs) => match matchH m sh.H with
  | some (m', ys) => if (m'.fz.all fun n => !(m'.θ.any fun p => Nat.beq p.2 n)) && m'.θ.all (fun p => Nat.blt p.1 np) then some (m', xs ++ ys) else none
  | none => none
 | none => none
def keyC : Code → Nat
 | .region id _ _ => id
 | .seq a _ => keyC a
 | .cond _ a _ => keyC a
 | .block _ a => keyC a
 | .loop a => keyC a
 | .scope a => keyC a
 | _ => 0
def loopsC : Code → List Code
 | .seq a b => loopsC a ++ loopsC b
 | .cond _ a b => loopsC a ++ loopsC b
 | .block _ a => loopsC a
 | .loop a => a :: loopsC a
 | .scope a => loopsC a
 | _ => []
def bodyC (P : Program) (f : FuncId) : Code := match P.funcs[f]? with
 | some fn => fn.body.getD .skip
 | none => .skip
def loopsBy (P : Program) (f : FuncId) (key : Nat) : List Code := if Nat.beq key 99999 then [] else (loopsC (bodyC P f)).filter fun a => Nat.beq (keyC a) key
def loopAt (P : Program) (f : FuncId) (key : Nat) : Code := (loopsBy P f key).headD .skip
def findL : List LoopC → FuncId → Nat → Option LoopC
 | [], _, _ => none
 | c :: l, f, k => if Nat.beq c.f f && Nat.beq c.key k then some c else findL l f k
def isX (F : List Value → List Value) (i : Nat) (vs : List Value) : List Value := match F vs with
 | .int _ n :: _ => [.bool (decide (n = i))]
 | _ => [.bool false]
def exitsS (c : LoopC) (xs : List SE) (i : Nat) : List (Xt × Shp × Nat) → Tree (Xt × St)
 | [] => .fail
 | [o] => .ret (o.1, o.2.1.inst (fun n => n) (fun j κ => .app (1000000000 + 100000 * c.f + c.key) c.F j κ xs) 1 o.2.2)
 | o :: l => .ite (.app (1000000000000 + 100 * (100000 * c.f + c.key) + i) (isX c.F i) 0 .b xs)
  (.ret (o.1, o.2.1.inst (fun n => n) (fun j κ => .app (1000000000 + 100000 * c.f + c.key) c.F j κ xs) 1 o.2.2)) (exitsS c xs (i + 1) l)
def findPB : List (Nat × PB) → Nat → Option PB
 | [], _ => none
 | (k, b) :: l, n => if Nat.beq k n then some b else findPB l n
def keptH (H : List (Nat × PB)) (k : Nat) : Bool := match findPB H k with
 | some b => b.arr.isNone
 | none => false
def outC (H : List (Nat × PB)) : PC → Bool
 | .h κ => isPl κ
 | .p b _ => keptH H b
 | .fn .. => false
 | .ar n _ _ => !(keptH H n)
 | .np => true
def outP (H : List (Nat × PB)) : PP → Bool
 | .c x => outC H x
 | .agg xs => xs.all (outC H)
def outV (H : List (Nat × PB)) : ShV → Bool
 | .p x => outP H x
 | .tup xs => xs.all (outP H)
 | .any => true
def outPB (H : List (Nat × PB)) (p : Nat × PB) : Bool := p.2.own && match p.2.arr with
 | none => keptH H p.1 && p.2.cells.all (outC H)
 | some _ => !(keptH H p.1)
def outOK (H : List (Nat × PB)) (s : Shp) : Bool := s.T.all (outV H) && s.H.all (outPB H)
def thetaB (c : LoopC) (m : MSt) (k : Nat) : Nat := if keptH c.head.H k then (lookN m.θ k).getD 0 else m.nx + k
def restH (m : MSt) : List (Nat × Blk) := m.H.filter fun p => !(m.θ.any fun q => Nat.beq q.2 p.1)
def valS (T : List SV) : SV := match T with
 | v :: _ => v
 | [] => .any
def leaveB (c : LoopC) (m : MSt) (xs : List SE) (o : Shp × Nat) : SV × List (Nat × Blk) × Nat :=
 (valS (instVs (thetaB c m) (fun j κ => .app (1000000000 + 100000 * c.f + c.key) c.F j κ xs) 1 o.1.T),
  instH (thetaB c m) (fun j κ => .app (1000000000 + 100000 * c.f + c.key) c.F j κ xs) (1 + (kindsVs o.1.T).length) o.1.H ++ restH m, m.nx + o.2)
def exitsB (c : LoopC) (m : MSt) (xs : List SE) (i : Nat) : List (Xt × Shp × Nat) → Tree (SV × List (Nat × Blk) × Nat)
 | [] => .fail
 | [o] => .ret (leaveB c m xs o.2)
 | o :: l => .ite (.app (1000000000000 + 100 * (100000 * c.f + c.key) + i) (isX c.F i) 0 .b xs) (.ret (leaveB c m xs o.2)) (exitsB c m xs (i + 1) l)
def callB (c : LoopC) (H : List (Nat × Blk)) (nx : Nat) (args : List SV) : Option (Tree (SV × List (Nat × Blk) × Nat)) :=
 match matchSh { T := args, H, nx } c.head c.np with
 | some (m, xs) => if c.outs.all (fun o => outOK c.head.H o.2.1) then some (.ite (.app (3000000000 + 100000 * c.f + c.key) (preF c.pre) 0 .b xs) (exitsB c m xs 0 c.outs) .fail) else none
 | none => none
def cutIx : List SC → Nat → Option Nat
 | [], _ => none
 | .ar _ (some _) :: _, i => some i
 | _ :: l, i => cutIx l (i + 1)
def cutH : List (Nat × Blk) → Option (Nat × Nat)
 | [] => none
 | (b, x) :: H => match cutIx x.cells 0 with
  | some i => some (b, i)
  | none => cutH H
def normH (H : List (Nat × Blk)) (nx : Nat) : List (Nat × Blk) × Nat := match cutH H with
 | some (b, i) => match find H b with
  | some y => match y.arr, y.cells[i]? with
   | none, some (.ar n (some k)) => match getAr H n with
    | some (bl, κs, c) => if bl.own then (upd ((nx, { cells := [], elem := bl.elem, own := true, arr := some (κs, takeE κs c (some k)) }) :: del H n) b (y.cells.set i (.ar nx none)), nx + 1) else (H, nx)
    | none => (H, nx)
   | _, _ => (H, nx)
  | none => (H, nx)
 | none => (H, nx)
def keptOK (H : List (Nat × PB)) (m : MSt) : Bool := m.θ.all fun p => !(keptH H p.1) || Nat.beq p.1 p.2
def getSs (g : Get) : List Operand → Option (List SV)
 | [] => some []
 | x :: l => match g x, getSs g l with
  | some v, some r => some (v :: r)
  | _, _ => none
def resS (P : Program) (s : St) : List ResultVar → Option (List SP)
 | [] => some []
 | .tmp t :: l => match s.T[t]?, resS P s l with
  | some (.p v), some r => some (v :: r)
  | _, _ => none
 | .cell a t :: l => match s.T[a]?, resS P s l with
  | some (.p (.c (.p n off))), some r => match find s.H n with
   | some b => match partS P t b.cells off with
    | some v => some (v :: r)
    | none => none
   | none => none
  | _, _ => none
def resV (xs : List SP) : SV := match xs with | [x] => .p x | xs => .tup xs
def capsS (caps : List Cap) : List SV := caps.map fun c => match c with | .p b off => .p (.c (.p b off)) | .q x off => .p (.c (.pl x off))
abbrev Rec := FuncId → Code → St → Tree (Xt × St)
def callF (rec : Rec) (P : Program) (f : FuncId) (args : List SV) (H : List (Nat × Blk)) (nx : Nat) : Tree (SV × List (Nat × Blk) × Nat × Bool) :=
 match P.funcs[f]? with
 | none => .fail
 | some fn => match fn.body with
  | none => .fail
  | some c => if fn.name == "runtime.NumGoroutine" then .fail else
   (rec f c { T := args ++ List.replicate (fn.ntmps - args.length) undefS, H, nx }).bind fun r =>
     match r.1 with
     | .exit _ => .fail
     | _ => match resS P r.2 fn.results.toList with
      | some xs => .ret (resV xs, r.2.H, r.2.nx, r.2.br)
      | none => .fail
def callS (M : Env) (rec : Rec) (P : Program) (S : List Sum) (s : St) (f : FuncId) (args : List SV) : Tree (SV × List (Nat × Blk) × Nat) :=
 match findS S f with
 | some c => match flatL s.H c.args args with
  | some xs => retS P f c.F xs c.res s.H s.nx
  | none => .fail
 | none => match pickC s.H M.cs f args with
  | some (c, xs) => .ite (.app (5000000 + f) (preF c.pre) 0 .b xs) (retS P f c.F xs c.res s.H s.nx) .fail
  | none => match (findL M.ls f 99999).bind fun c => callB c s.H s.nx args with
   | some t => t
   | none => (callF rec P f args s.H s.nx).bind fun r => if r.2.2.2 then .fail else .ret (r.1, r.2.1, r.2.2.1)
def putT (T : List SV) (dst : Option Nat) (v : SV) : List SV := match dst with | some d => T.set d v | none => T
def used (ops : Array Oper) (i : Nat) : Bool := ops.toList.any fun o => match o.guard with | some (j, _) => Nat.beq j i | none => false
def wantS (ops : Array Oper) (T : List SV) (o : Oper) : Option Bool :=
 match o.guard with
 | none => some true
 | some (j, want) => match (ops[j]?).bind (·.dst) with
  | none => none
  | some d => match T[d]? with
   | some (.p (.c (.e (.lit (.bool b))))) => some (b == want)
   | some (.tup []) => some false
   | _ => none
def part (u : Bool) (v : SV) : Tree SV :=
 if u then
  match v with
  | .p (.c (.e (.lit w))) => .ret (.p (.c (.e (.lit w))))
  | .p (.c (.e x)) => match x.kind with
   | some .b => .ite x (.ret (.p (.c (.e (.lit (.bool true)))))) (.ret (.p (.c (.e (.lit (.bool false))))))
   | _ => .ret v
  | v => .ret v
 else .ret v
def fin (s : St) (dst : Option Nat) (u : Bool) (r : Res) : Tree St :=
 match r with
 | .val v => (part u v).bind fun v => .ret { s with T := putT s.T dst v }
 | .blk cs t => .ret { T := putT s.T dst (.p (.c (.p s.nx 0))), H := (s.nx, { cells := cs, elem := t, own := true }) :: s.H, nx := s.nx + 1, br := s.br }
 | .sl cs t len => .ret { T := putT s.T dst (.p (.c (.sl s.nx 0 len len))), H := (s.nx, { cells := cs, elem := t, own := true }) :: s.H, nx := s.nx + 1, br := s.br }
 | .st n cs off new => .ret { T := putT s.T dst undefS, H := upd s.H n (putC cs off new), nx := s.nx, br := s.br }
 | .arr old c κs t => .ret { T := putT s.T dst (.p (.c (.ar s.nx none))), H := (s.nx, { cells := [], elem := t, own := true, arr := some (κs, c) }) :: delO s.H old, nx := s.nx + 1, br := s.br }
 | .sta n c κs => .ret { T := putT s.T dst undefS, H := updA s.H n κs c, nx := s.nx, br := s.br }
def isBig (P : Program) (op : Op) : Bool := match op with
 | .buildSlice t _ _ => match P.underlying t with
  | some (.slice e) => match sizeT P e with
   | some n => Nat.ble 20 n
   | none => false
  | _ => false
 | _ => false
def nilLit (P : Program) (op : Op) : Option (TypeId × List SK) := match op with
 | .buildSlice t 0 parts => if parts.isEmpty then match P.underlying t with
  | some (.slice e) => match sizeT P e, plainT P 8 e with
   | some _, some κs => some (e, κs)
   | _, _ => none
  | _ => none
  else none
 | _ => none
def bigStep (P : Program) (H : List (Nat × Blk)) (g : Get) (op : Op) : Tree Res :=
 match nilLit P op with
 | some (t, κs) => .ret (.arr none (nilE κs) κs t)
 | none => match pureStep P H g op with
 | .ret (.sl cs t len) => match plainT P 8 t with
  | some κs => match flat1s (repK len κs) cs with
   | some xs => if Nat.ble len 4096 && Nat.blt 0 κs.length then .ret (.arr none (.app (1010000 + len) (lsF κs.length len) 0 (.l κs) xs) κs t) else .fail
   | none => .fail
  | none => .fail
 | _ => .fail
def opStep (P : Program) (H : List (Nat × Blk)) (g : Get) (op : Op) : Tree Res :=
 match roStep P g op with
 | some t => t
 | none => if isBig P op then bigStep P H g op else if arOp g op then arStep P H g op else pureStep P H g op
def opS (M : Env) (rec : Rec) (P : Program) (S : List Sum) (u : Bool) (o : Oper) (s : St) : Tree St :=
 match o.op with
 | .call { callee := .value f, args, .. } =>
  match lookT s.T f, getSs (lookT s.T) args.toList with
  | some (.p (.c (.fn f caps))), some vs => (callS M rec P S s f (vs ++ capsS caps)).bind fun r =>
   (part u r.1).bind fun v => .ret { T := putT s.T o.dst v, H := r.2.1, nx := r.2.2, br := s.br }
  | _, _ => .fail
 | op => (opStep P s.H (lookT s.T) op).bind fun r => fin s o.dst u r
def evOps (M : Env) (rec : Rec) (P : Program) (S : List Sum) (ops : Array Oper) : Nat → List Oper → St → Tree St
 | _, [], s => .ret s
 | i, o :: l, s =>
  match wantS ops s.T o with
  | none => .fail
  | some false => evOps M rec P S ops (i + 1) l { s with T := putT s.T o.dst undefS }
  | some true => (opS M rec P S (used ops i) o s).bind fun s => evOps M rec P S ops (i + 1) l s
def lentP (H : List (Nat × Blk)) : SP → List Nat
 | .c x => lentC H x
 | .agg cs => cs.flatMap (lentC H)
def lentV (H : List (Nat × Blk)) : SV → List Nat
 | .p x => lentP H x
 | _ => []
def lentVs (H : List (Nat × Blk)) : List SV → List Nat
 | [] => []
 | v :: vs => lentV H v ++ lentVs H vs
def sameB : Option Nat → Option Nat → Bool
 | some n, some m => Nat.beq n m
 | _, _ => false
def blkN (H : List (Nat × Blk)) (l : List Nat) : List Nat := l.filter fun n => match find H n with
 | some b => b.arr.isNone
 | none => false
def lendO (H : List (Nat × Blk)) (g : Get) (op : Op) : List Nat := match op with
 | .call { callee := .value f, args, .. } => match g f, getSs g args.toList with
  | some (.p (.c (.fn _ caps))), some vs => lentVs H (vs ++ capsS caps)
  | _, _ => []
 | _ => []
def arRd (g : Get) (op : Op) : Option Nat :=
 match op with
 | .load _ x => match getC g x with | some (.pa n _ _ _) => some n | _ => none
 | .indexAddr _ x _ => match getC g x with | some (.ar n _) => some n | _ => none
 | .slice _ x _ _ _ => match getC g x with | some (.ar n _) => some n | _ => none
 | .call c => match c.callee with
  | .builtin .len => match c.args.toList with
   | [x] => match getC g x with | some (.ar n _) => some n | _ => none
   | _ => none
  | _ => none
 | _ => none
def allowed (P : Program) (M : Env) (S : List Sum) (H : List (Nat × Blk)) (g : Get) (o : Oper) : Bool :=
 match o.op with
 | .call { callee := .value f, args, .. } => match g f, getSs g args.toList with
  | some (.p (.c (.fn f caps))), some vs => ((blkN H (lendO H g o.op)).all fun n => sameB (some n) (blkN H (lendO H g o.op)).head?) && ((findS S f).isSome || (pickC H M.cs f (vs ++ capsS caps)).isSome)
  | _, _ => false
 | op => !(isBig P op) && (!(arOp g op) || (arRd g op).isSome)
def isSt (o : Oper) : Bool := match o.op with | .store .. => true | _ => false
def acc0 (H : List (Nat × Blk)) (g : Get) (nx : Nat) (o : Oper) : Option Nat := match o.op with
 | .load _ x | .store _ x _ => (getA g x).map (·.1)
 | .alloc .. | .box .. | .buildSlice .. => some nx
 | op => (blkN H (lendO H g op)).head?
def accOf (H : List (Nat × Blk)) (g : Get) (nx : Nat) (o : Oper) : Option Nat := match arRd g o.op with
 | some n => some n
 | none => acc0 H g nx o
def maskOf (acc : List Nat) : List Edge → Nat
 | [] => 0
 | e :: es => if Region.binds .any e then (2 ^ e.on ||| acc.getD e.on 0) ||| maskOf acc es else maskOf acc es
def slotsOk (ms : List Nat) (lk : List Tmp) (i m : Nat) : Nat → List (Option Tmp) → Bool
 | _, [] => true
 | j, none :: l => slotsOk ms lk i m (j + 1) l
 | j, some d :: l => (!(lk.contains d) || ((Nat.blt j i && m.testBit j) || (Nat.blt i j && (ms.getD j 0).testBit i))) && slotsOk ms lk i m (j + 1) l
def hangs (dsts : List (Option Tmp)) (ops : Array Oper) (ms : List Nat) : Nat → List Nat → List Oper → Bool
 | _, _, [] => true
 | i, acc, o :: l => (o.after.toList.all fun e => !(Region.binds .any e) || Nat.blt e.on i) && slotsOk ms (Oper.looksAt ops o) i (maskOf acc o.after.toList) 0 dsts && hangs dsts ops ms (i + 1) (acc ++ [maskOf acc o.after.toList]) l
def masks (acc : List Nat) : List Oper → List Nat
 | [] => acc
 | o :: l => masks (acc ++ [maskOf acc o.after.toList]) l
def accRow (ms : List Nat) (i : Nat) (n : Option Nat) : Nat → List (Option Nat) → Bool
 | _, [] => true
 | j, m :: l => (!(sameB n m) || ((!(Nat.blt j i) || (ms.getD i 0).testBit j) && (!(Nat.blt i j) || (ms.getD j 0).testBit i))) && accRow ms i n (j + 1) l
def accAll (ms : List Nat) (all : List (Option Nat)) : Nat → List Oper → List (Option Nat) → Bool
 | i, o :: l, n :: ns => (!(isSt o) || accRow ms i n 0 all) && accAll ms all (i + 1) l ns
 | _, _, _ => true
def evD (M : Env) (rec : Rec) (P : Program) (S : List Sum) (ops : Array Oper) : Nat → List Oper → St → List (Option Nat) → Tree (St × List (Option Nat))
 | _, [], s, l => .ret (s, l)
 | i, o :: os, s, l =>
  match wantS ops s.T o with
  | none => .fail
  | some false => evD M rec P S ops (i + 1) os { s with T := putT s.T o.dst undefS } (l ++ [none])
  | some true => if allowed P M S s.H (lookT s.T) o then (opS M rec P S (used ops i) o s).bind fun s' => evD M rec P S ops (i + 1) os s' (l ++ [accOf s.H (lookT s.T) s.nx o]) else .fail
def apartD : List (Option Tmp) → Bool
 | [] => true
 | none :: l => apartD l
 | some d :: l => !(l.contains (some d)) && apartD l
def drawOK (P : Program) (ops : Array Oper) : Bool :=
 P.follows .mixedOrders && apartD (ops.toList.map (·.dst)) && hangs (ops.toList.map (·.dst)) ops (masks [] ops.toList) 0 [] ops.toList
def refT (T : List SV) (x : Operand) (b : Bool) : List SV :=
 match x with
 | .tmp t => T.set t (.p (.c (.e (.lit (.bool b)))))
 | _ => T
def isLight (o : Oper) : Bool := match o.op with
 | .move .. | .assign .. | .pick .. | .extract .. | .binOp .. | .unOp .. | .convert .. | .fieldAddr .. | .field .. | .indexAddr .. | .index .. | .load .. | .nilCheck .. | .build .. => true
 | _ => false
def rootsV : Option SV → List Nat
 | some (.p (.c (.p n _))) => [n]
 | some (.p (.c (.sl n _ _ _))) => [n]
 | _ => []
def defOf (t : Nat) : List Oper → Option Oper
 | [] => none
 | o :: l => match o.dst with
  | some d => if Nat.beq d t then some o else defOf t l
  | none => defOf t l
def srcO (op : Op) : Option Operand := match op with
 | .move x | .assign x | .nilCheck x => some x
 | .fieldAddr _ x _ => some x
 | .indexAddr _ x _ => some x
 | _ => none
def rootX (ops : List Oper) : Nat → Operand → Operand
 | 0, x => x
 | n + 1, .tmp t => match defOf t ops with
  | some o => match srcO o.op with
   | some y => rootX ops n y
   | none => .tmp t
  | none => .tmp t
 | _, x => x
def rootsO (T : List SV) (ops : List Oper) (o : Oper) : List Nat := match o.op with
 | .load _ x => rootsV (lookT T (rootX ops 8 x))
 | _ => []
def lightN (T : List SV) (ops : List Oper) : List Nat := ops.flatMap fun o => if isLight o then rootsO T ops o else []
def inN (l : List Nat) (n : Nat) : Bool := l.any (Nat.beq n)
def inRn (l : List Nat) (H : List (Nat × Blk)) (n : Nat) : Bool := inN l n && (match find H n with
 | some b => b.arr.isNone
 | none => false)
def partH (l : List Nat) (H : List (Nat × Blk)) (q : Bool) : List (Nat × Blk) := H.filter fun p => inRn l H p.1 == q
def maskT (lk : List Nat) : Nat → List SV → List SV
 | _, [] => []
 | i, v :: l => (if inN lk i then v else .any) :: maskT lk (i + 1) l
def slotOf (T : List SV) (dst : Option Nat) : SV := match dst with
 | some d => T.getD d .any
 | none => .any
def isLate (o : Oper) : Bool := o.guard.isNone && match o.op with
 | .alloc .. | .box .. | .buildSlice .. => true
 | _ => false
def chainF (ms : List Nat) : Nat → List Nat → List Oper → Option (List Bool)
 | _, _, [] => some []
 | i, hs, o :: l => if isLight o then (chainF ms (i + 1) hs l).map (false :: ·)
  else if hs.all (fun j => (ms.getD i 0).testBit j) then (chainF ms (i + 1) (i :: hs) l).map (false :: ·)
  else if isLate o then (chainF ms (i + 1) (i :: hs) l).map (true :: ·) else none
def capNs : List Cap → List Nat
 | [] => []
 | .p b _ :: l => b :: capNs l
 | .q _ _ :: l => capNs l
def namesC : SC → List Nat
 | .p b _ => [b]
 | .fn _ caps => capNs caps
 | .sl b _ _ _ => [b]
 | .ar n _ => [n]
 | .pa n _ _ _ => [n]
 | _ => []
def namesP : SP → List Nat
 | .c x => namesC x
 | .agg cs => cs.flatMap namesC
def namesV : SV → List Nat
 | .p x => namesP x
 | .tup xs => xs.flatMap namesP
 | .any => []
def okNs (b0 b1 : Nat) (l : List Nat) : Bool := l.all fun n => Nat.blt n b0 || Nat.ble b1 n
def okH (b0 b1 : Nat) (H : List (Nat × Blk)) : Bool := H.all fun p => okNs b0 b1 [p.1] && okNs b0 b1 (p.2.cells.flatMap namesC)
def dropR (R H : List (Nat × Blk)) : List (Nat × Blk) := H.filter fun p => !(R.any fun q => Nat.beq q.1 p.1)
def mildO (M : Env) (S : List Sum) (H : List (Nat × Blk)) (g : Get) (o : Oper) : Bool := match o.op with
 | .call { callee := .value f, args, .. } => match g f, getSs g args.toList with
  | some (.p (.c (.fn f caps))), some vs => (findS S f).isSome || (pickC H M.cs f (vs ++ capsS caps)).isSome
  | _, _ => false
 | _ => false
def frz (R : List (Nat × Blk)) : List (Nat × Blk) := R.map fun p => (p.1, { p.2 with own := false })
def lateR (n : Nat) : Res → Option (SV × Blk)
 | .blk cs t => some (.p (.c (.p n 0)), { cells := cs, elem := t, own := true })
 | .sl cs t len => some (.p (.c (.sl n 0 len len)), { cells := cs, elem := t, own := true })
 | _ => none
def evC (M : Env) (rec : Rec) (P : Program) (S : List Sum) (ops : Array Oper) (R : List (Nat × Blk)) (base : Nat) : Nat → List Oper → List Bool → St → Tree St
 | _, [], _, s => .ret s
 | i, o :: l, fl, s =>
  match wantS ops s.T o with
  | none => .fail
  | some false => if fl.headD false then .fail else evC M rec P S ops R base (i + 1) l fl.tail { s with T := putT s.T o.dst undefS }
  | some true =>
   if fl.headD false then (pureStep P [] (lookT (maskT (Oper.looksAt ops o) 0 s.T)) o.op).bind fun r => match lateR (base + i) r with
    | some (v, b) => evC M rec P S ops R base (i + 1) l fl.tail { T := putT s.T o.dst v, H := (base + i, b) :: s.H, nx := s.nx, br := s.br }
    | none => .fail
   else if isLight o then (opStep P R (lookT (maskT (Oper.looksAt ops o) 0 s.T)) o.op).bind fun r => match r with
    | .val v => (part (used ops i) v).bind fun v => evC M rec P S ops R base (i + 1) l fl.tail { s with T := putT s.T o.dst v }
    | _ => .fail
   else (opS M rec P S (used ops i) o { s with T := maskT (Oper.looksAt ops o) 0 s.T, H := (if mildO M S (R ++ s.H) (lookT (maskT (Oper.looksAt ops o) 0 s.T)) o then frz R else []) ++ s.H }).bind fun s1 =>
    if okNs (base + i) (base + ops.size) (namesV (slotOf s1.T o.dst)) && okH (base + i) (base + ops.size) (dropR R s1.H) && Nat.ble (base + ops.size) s1.nx then evC M rec P S ops R base (i + 1) l fl.tail { s1 with T := putT s.T o.dst (slotOf s1.T o.dst), H := dropR R s1.H } else .fail
def heavyC (M : Env) (S : List Sum) (ops : List Oper) : Bool := ops.any fun o => match o.op with
 | .call c => match c.callee with
  | .builtin .append => true
  | .value (.func f) => (findS S f).isNone && M.cs.all (fun c => !(Nat.beq c.f f))
  | _ => false
 | .makeSlice .. => true
 | _ => false
def evDraw (M : Env) (rec : Rec) (P : Program) (S : List Sum) (ops : Array Oper) (s : St) : Tree St :=
 match chainF (masks [] ops.toList) 0 [] ops.toList with
 | some fl => (evC M rec P S ops (partH (lightN s.T ops.toList) s.H true) s.nx 0 ops.toList fl { s with H := partH (lightN s.T ops.toList) s.H false, nx := s.nx + ops.size }).bind fun s' => .ret { s' with H := partH (lightN s.T ops.toList) s.H true ++ s'.H }
 | none => .fail
def lastOK (P : Program) (ops : Array Oper) : Bool := match ops.back? with
 | some o => (match o.op with
  | .store _ (.tmp t) _ => ops.toList.any fun p => (match p.dst with
   | some d => Nat.beq d t
   | none => false) && (match p.op with
   | .fieldAddr .. => true
   | .indexAddr .. => true
   | _ => false)
  | _ => false) && drawOK P ops && drawOK P ops.pop && (List.range (ops.size - 1)).all (fun j => ((masks [] ops.toList).getD (ops.size - 1) 0).testBit j) && ops.pop.toList.all (fun o => match o.guard with
   | some (j, _) => Nat.blt j (ops.size - 1)
   | none => true)
 | none => false
def drawS (M : Env) (rec : Rec) (P : Program) (S : List Sum) (ops : Array Oper) (s : St) : Tree St :=
 if heavyC M S ops.toList then evDraw M rec P S ops s
 else (evD M (rec) P S ops 0 ops.toList s []).bind fun r => if accAll (masks [] ops.toList) r.2 0 ops.toList r.2 then .ret r.1 else .fail
def loopS (c : LoopC) (s : St) : Tree (Xt × St) :=
 if Nat.beq c.key 99999 then .fail else
 match matchSh s c.head c.np with
 | some (_, xs) => .ite (.app (3000000000 + 100000 * c.f + c.key) (preF c.pre) 0 .b xs) (exitsS c xs 0 c.outs) .fail
 | none => .fail
def stepC (M : Env) (P : Program) (S : List Sum) (rec : Rec) (f : FuncId) (c : Code) (s : St) : Tree (Xt × St) :=
 match c with
 | .skip => .ret (.normal, s)
 | .label _ => .ret (.normal, s)
 | .region _ ops draw => if draw then
  if lastOK P ops then (drawS M rec P S ops.pop s).bind fun s' => (evOps M rec P S ops (ops.size - 1) (ops.toList.drop (ops.size - 1)) s').bind fun s' => .ret (.normal, s')
  else if drawOK P ops then (drawS M rec P S ops s).bind fun s' => .ret (.normal, s')
  else .fail
  else (evOps M rec P S ops 0 ops.toList s).bind fun s => .ret (.normal, s)
 | .seq a b => (rec f a s).bind fun r => match r.1 with
  | .normal => rec f b r.2
  | x => .ret (x, r.2)
 | .cond c a b => match lookT s.T c with
  | some (.p (.c (.e (.lit (.bool true))))) => rec f a s
  | some (.p (.c (.e (.lit (.bool false))))) => rec f b s
  | some (.p (.c (.e x))) => match x.kind with
   | some .b => .ite x (rec f a { s with T := refT s.T c true }) (rec f b { s with T := refT s.T c false })
   | _ => .fail
  | _ => .fail
 | .block id a => (rec f a s).bind fun r => match r.1 with
  | .exit id' => if Nat.beq id' id then .ret (.normal, r.2) else .ret (.exit id', r.2)
  | x => .ret (x, r.2)
 | .loop a => match findL M.ls f (keyC a) with
  | some c => loopS c s
  | none => (rec f a s).bind fun r => match r.1 with
   | .normal => rec f (.loop a) r.2
   | x => .ret (x, r.2)
 | .exit id => .ret (.exit id, s)
 | .scope a => rec f a s
 | .ret => .ret (.ret, s)
 | _ => .fail
def ev (M : Env) (P : Program) (S : List Sum) (n : Nat) : Rec :=
 Nat.rec (motive := fun _ => Rec) (fun _ _ _ => .fail) (fun _ ih => stepC M P S ih) n
def resC (H : List (Nat × Blk)) (e : Option TypeId) (κ : SK) (c : SC) : Option SC :=
 match c with
 | .nl true => match κ, e with
  | .l κs, some _ => some (.le (nilE κs))
  | _, _ => none
 | .ar n k => match κ, find H n, e with
  | .l κs, some b, some e => match b.arr with
   | some (κs', x) => if eqSKs κs κs' && b.own && Nat.beq b.elem e then some (.le (takeE κs x k)) else none
   | none => none
  | _, _, _ => none
 | .e x => some (.e x)
 | _ => none
def resP (H : List (Nat × Blk)) (e : Option TypeId) (p : PS) (v : SP) : Option SP :=
 match p, v with
 | .c κ, .c c => (resC H e κ c).map .c
 | .agg _, .agg cs => some (.agg cs)
 | _, _ => none
def resPs (H : List (Nat × Blk)) (e : Option TypeId) : List PS → List SP → Option (List SP)
 | [], [] => some []
 | p :: ps, v :: vs => match resP H e p v, resPs H e ps vs with
  | some a, some b => some (a :: b)
  | _, _ => none
 | _, _ => none
def resSV (H : List (Nat × Blk)) (e : Option TypeId) (R : RS) (v : SV) : Option SV :=
 match R, v with
 | .one p, .p x => (resP H e p x).map .p
 | .tup ps, .tup xs => (resPs H e ps xs).map .tup
 | _, _ => none
def resElem (P : Program) (f : FuncId) : Option TypeId := match resElems P f with
 | [e] => some e
 | _ => none
def evFM (M : Env) (P : Program) (S : List Sum) (n : Nat) (f : FuncId) (args : List SV) (R : RS) : Tree SV :=
 (callF (ev M P S n) P f args [] 0).bind fun r => match resSV r.2.1 (resElem P f) R r.1 with
   | some v => .ret v
   | none => .fail
def evF (P : Program) (S : List Sum) (n : Nat) (f : FuncId) (args : List SV) : Tree SV :=
 (callF (ev noEnv P S n) P f args [] 0).bind fun r => .ret r.1
def inCs : List SK → List Value → List SC
 | [], _ => []
 | κ :: κs, vs => cellK κ (.val (vs.headD undef) κ) :: inCs κs vs.tail
def PS.inP : PS → List Value → SP
 | .c κ, vs => .c (cellK κ (.val (vs.headD undef) κ))
 | .agg κs, vs => .agg (inCs κs vs)
def inL : List PS → List Value → List SV
 | [], _ => []
 | p :: ps, vs => .p (p.inP vs) :: inL ps (vs.drop p.kinds.length)
def SC.leaf : SC → Value
 | .e x => x.den
 | .le x => x.den
 | _ => undef
def leafs : List SC → List Value
 | [] => []
 | c :: cs => c.leaf :: leafs cs
def fitC : List SK → List SC → Bool
 | [], [] => true
 | κ :: κs, .e x :: cs => (match x.kind with | some κ' => eqSK κ κ' && isPl κ | none => false) && fitC κs cs
 | _, _ => false
def fitP : PS → SP → Bool
 | .c κ, .c x => fitC [κ] [x]
 | .agg κs, .agg cs => fitC κs cs
 | _, _ => false
def fitL : List PS → List SP → Bool
 | [], [] => true
 | p :: ps, x :: xs => fitP p x && fitL ps xs
 | _, _ => false
def fitR : RS → SV → Bool
 | .one p, .p x => fitP p x
 | .tup ps, .tup xs => fitL ps xs
 | _, _ => false
def Tree.good (r : RS) : Tree SV → Bool
 | .ret v => fitR r v
 | .ite _ t f => t.good r && f.good r
 | .fail => true
def fitX : PS → SP → Bool
 | .c (.l κs), .c (.le x) => (match x.kind with | some (.l κs') => eqSKs κs κs' && κs.all isPl | _ => false)
 | p, x => fitP p x
def fitXs : List PS → List SP → Bool
 | [], [] => true
 | p :: ps, x :: xs => fitX p x && fitXs ps xs
 | _, _ => false
def fitXR : RS → SV → Bool
 | .one p, .p x => fitX p x
 | .tup ps, .tup xs => fitXs ps xs
 | _, _ => false
def Tree.goodX (r : RS) : Tree SV → Bool
 | .ret v => fitXR r v
 | .ite _ t f => t.goodX r && f.goodX r
 | .fail => true
def Tree.ok : Tree SV → Bool
 | .ret _ => true
 | .ite c t f => bif tru c.den then t.ok else f.ok
 | .fail => false
def Tree.sure : Tree SV → Bool
 | .ret _ => true
 | .ite _ t f => t.sure && f.sure
 | .fail => false
def Tree.okR : Tree SV → Bool
 | .ret _ => true
 | .ite c t f => if t.sure && f.sure then true else bif tru c.den then t.okR else f.okR
 | .fail => false
theorem ok_of_sure : ∀ {t : Tree SV}, t.sure = true → t.ok = true
 | .ret _, _ => rfl
 | .ite c t f, h => by
  simp only [Tree.sure, Bool.and_eq_true] at h
  simp only [Tree.ok, ok_of_sure h.1, ok_of_sure h.2]
  cases tru c.den <;> rfl
 | .fail, h => by simp [Tree.sure] at h
def SP.leaves : SP → List Value
 | .c x => [x.leaf]
 | .agg cs => leafs cs
def leavesL : List SP → List Value
 | [] => []
 | x :: xs => x.leaves ++ leavesL xs
def SV.leaves : SV → List Value
 | .p x => x.leaves
 | .tup xs => leavesL xs
 | .any => []
def Tree.outL : Tree SV → List Value
 | .ret v => v.leaves
 | .ite c t f => bif tru c.den then t.outL else f.outL
 | .fail => []
def Tree.fold {β : Type} (d : List Value → β) : Tree SV → β
 | .ret v => d v.leaves
 | .ite c t f => bif tru c.den then t.fold d else f.fold d
 | .fail => d []
theorem fold_eq {β : Type} (d : List Value → β) : ∀ t : Tree SV, d t.outL = t.fold d
 | .ret _ => rfl
 | .ite c t f => by
  simp only [Tree.outL, Tree.fold, ← fold_eq d t, ← fold_eq d f]
  cases tru c.den <;> rfl
 | .fail => rfl
theorem spell {β : Type} (d : List Value → β) (t : Tree SV) {x y : β} (h1 : x = d t.outL) (h2 : t.fold d = y) : x = y := h1.trans ((fold_eq d t).trans h2)
theorem okR_eq : ∀ t : Tree SV, t.ok = t.okR
 | .ret _ => rfl
 | .ite c t f => by
  simp only [Tree.ok, Tree.okR]
  split
  ·rename_i h
   simp only [Bool.and_eq_true] at h
   rw [ok_of_sure h.1, ok_of_sure h.2]
   cases tru c.den <;> rfl
  ·rw [okR_eq t, okR_eq f]
 | .fail => rfl
def valMk (vs : List Value) (j : Nat) (κ : SK) : SE := .val (vs.getD j undef) κ
def headS (c : LoopC) (vs : List Value) : St := c.head.inst (fun n => n) (valMk vs) 0 c.np
def outOf (x : Xt) (s : St) (i : Nat) : List (Xt × Shp × Nat) → Tree SV
 | [] => .fail
 | o :: l => if eqXt o.1 x then match matchSh s o.2.1 o.2.2 with
  | some (_, xs) => .ret (.p (.agg (.e (.lit (.int .i64 i)) :: xs.map .e)))
  | none => outOf x s (i + 1) l
  else outOf x s (i + 1) l
def roundS (c : LoopC) (r : Xt × St) : Tree SV :=
 match r.1 with
 | .normal => match matchSh r.2 c.head c.np with
  | some (_, xs) => .ret (.p (.agg (.e (.lit (.int .i64 (-1))) :: xs.map .e)))
  | none => .fail
 | x => outOf x r.2 0 c.outs
def evL (M : Env) (P : Program) (S : List Sum) (n : Nat) (c : LoopC) (vs : List Value) : Tree SV :=
 (ev M P S n c.f (loopAt P c.f c.key) (headS c vs)).bind (roundS c)
def keptPs (H : List (Nat × PB)) : List (Nat × PB) → List SV
 | [] => []
 | p :: l => if keptH H p.1 then .p (.c (.p p.1 0)) :: keptPs H l else keptPs H l
def outBS (c : LoopC) (v : SV) (H : List (Nat × Blk)) (nx : Nat) (i : Nat) : List (Xt × Shp × Nat) → Tree SV
 | [] => .fail
 | o :: l => match matchSh { T := v :: keptPs c.head.H c.head.H, H, nx } o.2.1 o.2.2 with
  | some (m, xs) => if keptOK c.head.H m then .ret (.p (.agg (.e (.lit (.int .i64 i)) :: xs.map .e))) else outBS c v H nx (i + 1) l
  | none => outBS c v H nx (i + 1) l
def evB (M : Env) (P : Program) (S : List Sum) (n : Nat) (c : LoopC) (vs : List Value) : Tree SV :=
 (callF (ev M P S n) P c.f (headS c vs).T (headS c vs).H c.np).bind fun r => if r.2.2.2 then .fail else outBS c r.1 (normH r.2.1 r.2.2.1).1 (normH r.2.1 r.2.2.1).2 0 c.outs
end Go.Proofs.YtdioaiepkhepaaaGreatDoor
