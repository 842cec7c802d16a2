/-
  An abstract evaluator for Go code: data, operations, regions, code and calls, and that it is right.
-/
import Derived.WalkKit
import Derived.OrdersHeld
import Derived.LoopN
import Derived.Tactics

/-
  An abstract evaluator for Go code: its data and its functions. Cells whose values are pure data are told by their Go values; places in memory by numbers of abstract blocks.
-/
namespace Go.Proofs.Ythckkoledhjmeaa.Ev
open Go

/-- One cell: a value that is known (c), pure data (d), a pointer into a block (ptr) or into a row (rp), a slice of a row (sl), a map (mp), a function with captured places (fn). -/
inductive SV where
  | c (v : Value)
  | d (v : Value)
  | ptr (l o : Nat)
  | rp (l k i o : Nat)
  | sl (l k i n z : Nat)
  | mp (l : Nat)
  | fn (f : Nat) (caps : List (Nat × Nat))

inductive EV where
  | s (x : SV)
  | agg (cs : List SV)

inductive AV where
  | e (x : EV)
  | tup (vs : List EV)

/-- A packet. -/
structure Pkt where
  seq : Int
  mi : Int
  size : Int
  sent : Int

/-- A block: cells of a variable; a row (its element type, cells an element, how many, which); a row that is written out; a row that is only read; a map of packets by their numbers; gone. -/
inductive AB where
  | cells (ty : Nat) (cs : List SV)
  | row (ty k n : Nat) (g : Nat → List Value)
  | lit (ty k : Nat) (chunks : List (List Value))
  | ro (k n : Nat) (g : Nat → List Value)
  | pm (es : List Pkt)
  | dead

abbrev Heap := List AB

structure St where
  fr : List AV
  H : Heap

/-! ### What an operation without memory gives -/

inductive R where
  | v (x : AV)
  | b (t : Bool)
  | need (p : Prop) (r : R)
  | bad

@[reducible] def undefA : AV := .tup []
@[reducible] def AV.c (v : Value) : AV := .e (.s (.c v))
@[reducible] def AV.d (v : Value) : AV := .e (.s (.d v))

def opnd (fr : List AV) : Operand → AV
  | .tmp t => fr.getD t undefA
  | .const v => .c v
  | .global g => .c (.pointer (some ⟨g, 0, none⟩))
  | .func f => .e (.s (.fn f []))

def put (fr : List AV) (dst : Option Tmp) (v : AV) : List AV :=
  match dst with
  | some d => fr.set d v
  | none => fr

def SV.one : SV → Bool
  | .c v | .d v => v.oneCell'
  | _ => true

/-- The cells of a value. -/
def AV.cells : AV → Option (List SV)
  | .e (.s x) => if x.one then some [x] else none
  | .e (.agg cs) => some cs
  | .tup _ => none

def zeroOf (P : Program) (t : TypeId) : Option (List SV) :=
  ((P.info? t).bind (·.zero)).map fun v => v.cells.toList.map SV.c

def sizeOfT (P : Program) (t : TypeId) : Option Nat := (P.info? t).map (·.size)

def aggT (P : Program) (t : TypeId) : Option Bool :=
  match P.underlying t with
  | some (.struct _) | some (.array _ _) => some true
  | some _ => some false
  | none => none

/-- A field's place, if it has cells. -/
def fieldOff (P : Program) (s : TypeId) (f : Nat) : Option (Nat × TypeId) :=
  match P.underlying s with
  | some (.struct fs) => match fs[f]? with
    | some x => match sizeOfT P x.type with
      | some (_ + 1) => some (x.offset, x.type)
      | _ => none
    | none => none
  | _ => none

def elemT (P : Program) (t : TypeId) : Option TypeId :=
  match P.underlying t with
  | some (.slice e) => some e
  | _ => none

/-- Parts put into cells, at their places. -/
def fillA (place : Nat → Option (Nat × Nat)) (cells : List SV) : List (Nat × AV) → Option (List SV)
  | [] => some cells
  | (i, v) :: rest =>
    match place i, v.cells with
    | some (off, size), some cs =>
      if cs.length = size ∧ off + size ≤ cells.length then fillA place (cells.take off ++ cs ++ cells.drop (off + size)) rest else none
    | _, _ => none

def placesOf (P : Program) (fs : List Field) : Option (List (Nat × Nat)) := fs.mapM fun f => (sizeOfT P f.type).map fun n => (f.offset, n)

def intOp (op : BinOp) (k : IntKind) (mk : Value → SV) (x y : Int) : R :=
  match op with
  | .add => .v (.e (.s (mk (.int k (k.wrap (x + y))))))
  | .sub => .v (.e (.s (mk (.int k (k.wrap (x - y))))))
  | .mul => .v (.e (.s (mk (.int k (k.wrap (x * y))))))
  | .quo => .need (y ≠ 0) (.v (.e (.s (mk (.int k (k.wrap (x.tdiv y)))))))
  | .rem => .need (y ≠ 0) (.v (.e (.s (mk (.int k (x.tmod y))))))
  | _ => .bad

def cmpOp (op : BinOp) (x y : Int) : Option Bool :=
  match op with
  | .eql => some (x == y)
  | .neq => some (x != y)
  | .lss => some (decide (x < y))
  | .leq => some (decide (x ≤ y))
  | .gtr => some (decide (x > y))
  | .geq => some (decide (x ≥ y))
  | _ => none

def int2 (op : BinOp) (st : Bool) (k k' : IntKind) (x y : Int) : R :=
  if k = k' then
    match cmpOp op x y with
    | some t => if st then .v (.c (.bool t)) else .b t
    | none => intOp op k (if st then SV.c else SV.d) x y
  else .bad

def SV.num : SV → Option (IntKind × Int)
  | .c (.int k n) | .d (.int k n) => some (k, n)
  | _ => none

/-- Are all cells whole numbers, and these? -/
def eqCells : List SV → List SV → Option Bool
  | [], [] => some true
  | x :: xs, y :: ys =>
    match x.num, y.num with
    | some (k, a), some (k', b) => if k = k' then (eqCells xs ys).map fun r => a == b && r else none
    | _, _ => none
  | _, _ => none

def intT (P : Program) (t : TypeId) : Bool := match P.underlying t with | some (.int _) => true | _ => false

def flatFields (P : Program) : List Field → Nat → Bool
  | [], _ => true
  | f :: fs, i => f.name != "_" && f.offset == i && intT P f.type && flatFields P fs (i + 1)

/-- A struct type of so many fields, all of them whole numbers. -/
def flatT (P : Program) (t : TypeId) (n : Nat) : Bool :=
  match P.underlying t with
  | some (.struct fs) => fs.toList.length == n && flatFields P fs.toList 0 && !P.eqGuardType P.depth t && !P.stoodInHeld t
  | _ => false

def eqOp (P : Program) (t : TypeId) (neg : Bool) (x y : AV) : R :=
  match x, y with
  | .e (.s (.c (.bool a))), .e (.s (.c (.bool b))) => if (match P.underlying t with | some .bool => true | _ => false) then .v (.c (.bool (if neg then !(a == b) else a == b))) else .bad
  | .e (.s (.ptr _ _)), .e (.s (.c (.pointer none))) => if (match P.underlying t with | some (.pointer _) => true | _ => false) then .v (.c (.bool neg)) else .bad
  | .e (.s (.c (.pointer none))), .e (.s (.c (.pointer none))) => if (match P.underlying t with | some (.pointer _) => true | _ => false) then .v (.c (.bool !neg)) else .bad
  | .e (.agg xs), .e (.agg ys) =>
    if flatT P t xs.length then
      match eqCells xs ys with
      | some r => .b (if neg then !r else r)
      | none => .bad
    else .bad
  | _, _ => .bad

def binA (P : Program) (op : BinOp) (t : TypeId) (x y : AV) : R :=
  match x, y with
  | .e (.s (.c (.int k a))), .e (.s (.c (.int k' b))) => int2 op true k k' a b
  | .e (.s (.c (.int k a))), .e (.s (.d (.int k' b))) => int2 op false k k' a b
  | .e (.s (.d (.int k a))), .e (.s (.c (.int k' b))) => int2 op false k k' a b
  | .e (.s (.d (.int k a))), .e (.s (.d (.int k' b))) => int2 op false k k' a b
  | x, y => match op with
    | .eql => eqOp P t false x y
    | .neq => eqOp P t true x y
    | _ => .bad

def asInt : AV → Option Int
  | .e (.s (.c (.int _ n))) | .e (.s (.d (.int _ n))) => some n
  | _ => none

def sliceA (l k i n z : Nat) (lo hi : Int) : R :=
  .need (0 ≤ lo ∧ lo ≤ hi ∧ hi ≤ n) (.v (.e (.s (.sl l k (i + lo.toNat) (hi.toNat - lo.toNat) (if lo = 0 then z else i)))))

def capsOf : List AV → Option (List (Nat × Nat))
  | [] => some []
  | .e (.s (.ptr l o)) :: r => (capsOf r).map ((l, o) :: ·)
  | _ => none

def maxA (gt : Bool) (x y : AV) : R :=
  match x, y with
  | .e (.s (.c (.int k a))), .e (.s (.c (.int _ b))) | .e (.s (.c (.int k a))), .e (.s (.d (.int _ b)))
  | .e (.s (.d (.int k a))), .e (.s (.c (.int _ b))) | .e (.s (.d (.int k a))), .e (.s (.d (.int _ b))) => .v (.d (.int k (if gt then (if b > a then b else a) else (if b < a then b else a))))
  | _, _ => .bad

/-- An operation that neither reads nor writes memory. -/
def pureA (P : Program) (fr : List AV) : Op → R
  | .move x | .assign x => .v (opnd fr x)
  | .pick c a b => match opnd fr c with
    | .e (.s (.c (.bool t))) => .v (if t then opnd fr a else opnd fr b)
    | _ => .bad
  | .build t parts => match P.underlying t, zeroOf P t with
    | some (.struct fs), some z => match placesOf P fs.toList with
      | some ps => match fillA (ps[·]?) z (parts.toList.map fun (i, x) => (i, opnd fr x)) with
        | some cs => .v (.e (.agg cs))
        | none => .bad
      | none => .bad
    | _, _ => .bad
  | .nilCheck x => match opnd fr x with
    | .e (.s (.ptr l o)) => .v (.e (.s (.ptr l o)))
    | .e (.s (.rp l k i o)) => .v (.e (.s (.rp l k i o)))
    | _ => .bad
  | .binOp op t x y _ => binA P op t (opnd fr x) (opnd fr y)
  | .unOp .not _ x => match opnd fr x with
    | .e (.s (.c (.bool t))) => .v (.c (.bool !t))
    | _ => .bad
  | .convert src dst x => match P.underlying src, P.underlying dst, opnd fr x with
    | some (.int _), some (.int k), .e (.s (.c (.int _ n))) => .v (.c (.int k (k.wrap n)))
    | some (.int _), some (.int k), .e (.s (.d (.int _ n))) => .v (.d (.int k (k.wrap n)))
    | _, _, _ => .bad
  | .makeFunc (.func f) first captured => match first.toList, capsOf (captured.toList.map (opnd fr)) with
    | [], some cs => .v (.e (.s (.fn f cs)))
    | _, _ => .bad
  | .slice t x lo hi none => match elemT P t, opnd fr x with
    | some e, .e (.s (.sl l k i n z)) => if sizeOfT P e = some k then match lo.map fun y => asInt (opnd fr y), hi.map fun y => asInt (opnd fr y) with
      | none, none => sliceA l k i n z 0 n
      | some (some a), none => sliceA l k i n z a n
      | none, some (some b) => sliceA l k i n z 0 b
      | some (some a), some (some b) => sliceA l k i n z a b
      | _, _ => .bad
      else .bad
    | _, _ => .bad
  | .fieldAddr s x f => match fieldOff P s f, opnd fr x with
    | some (off, _), .e (.s (.ptr l o)) => .v (.e (.s (.ptr l (o + off))))
    | some (off, _), .e (.s (.rp l k i o)) => .v (.e (.s (.rp l k i (o + off))))
    | _, _ => .bad
  | .field s x f => match fieldOff P s f, opnd fr x with
    | some (off, ft), .e (.agg cs) => match aggT P ft, sizeOfT P ft with
      | some true, some n => if off + n ≤ cs.length then .v (.e (.agg ((cs.drop off).take n))) else .bad
      | some false, _ => match cs[off]? with
        | some v => .v (.e (.s v))
        | none => .bad
      | _, _ => .bad
    | _, _ => .bad
  | .indexAddr t x ix => match elemT P t, opnd fr x, asInt (opnd fr ix) with
    | some e, .e (.s (.sl l k i n _)), some j => if sizeOfT P e = some k then .need (0 ≤ j ∧ j < n) (.v (.e (.s (.rp l k (i + j.toNat) 0)))) else .bad
    | _, _, _ => .bad
  | .extract x i => match opnd fr x with
    | .tup vs => match vs[i]? with
      | some v => .v (.e v)
      | none => .bad
    | _ => .bad
  | .call { callee := .builtin .len, args, argTypes } => match args.toList.map (opnd fr), argTypes.toList with
    | [.e (.s (.sl _ _ _ n _))], [t] => if (elemT P t).isSome then .v (.d (.int .i64 n)) else .bad
    | [.e (.s (.c (.slice none 0 0)))], [t] => if (elemT P t).isSome then .v (.c (.int .i64 0)) else .bad
    | _, _ => .bad
  | .call { callee := .builtin .max, args, .. } => match args.toList.map (opnd fr) with
    | [x, y] => maxA true x y
    | _ => .bad
  | .call { callee := .builtin .min, args, .. } => match args.toList.map (opnd fr) with
    | [x, y] => maxA false x y
    | _ => .bad
  | _ => .bad

/-! ### What an operation that reads memory gives: the block that it reads, and its value by what lies there -/

def rowLoad (P : Program) (t : TypeId) (n : Nat) (g : Nat → List Value) (k i o : Nat) : R :=
  match aggT P t, sizeOfT P t with
  | some true, some s => if o + s ≤ k then .need (i < n) (.v (.e (.agg ((((g i).map SV.d).drop o).take s)))) else .bad
  | some false, some _ => if o < k then .need (i < n) (match ((g i).map SV.d)[o]? with | some (.d (.bool t)) => .b t | some v => .v (.e (.s v)) | none => .bad) else .bad
  | _, _ => .bad

def litLoad (P : Program) (t : TypeId) (chunks : List (List Value)) (k i o : Nat) : R := rowLoad P t chunks.length (fun j => chunks.getD j []) k i o

def loadA (P : Program) (t : TypeId) (x : SV) (B : AB) : R :=
  match x, B with
  | .ptr _ o, .cells _ cs => match aggT P t, sizeOfT P t with
    | some true, some s => if o + s ≤ cs.length then .v (.e (.agg ((cs.drop o).take s))) else .bad
    | some false, some _ => match cs[o]? with
      | some (.d (.bool t)) => .b t
      | some v => .v (.e (.s v))
      | none => .bad
    | _, _ => .bad
  | .rp _ k' i o, .row _ k n g => if k' = k then rowLoad P t n g k i o else .bad
  | .rp _ k' i o, .ro k n g => if k' = k then rowLoad P t n g k i o else .bad
  | .rp _ k' i o, .lit _ k ch => if k' = k then litLoad P t ch k i o else .bad
  | _, _ => .bad

def Pkt.vals (p : Pkt) : List Value := [.int .u64 p.seq, .int .i64 p.mi, .int .i64 p.size, .int .i64 p.sent]
def Pkt.cells (p : Pkt) : List SV := [.d (.int .u64 p.seq), .d (.int .i64 p.mi), .d (.int .i64 p.size), .d (.int .i64 p.sent)]
def Pkt.zero : Pkt := ⟨0, 0, 0, 0⟩
def hasP (es : List Pkt) (s : Int) : Bool := es.any fun p => s == p.seq
def findP (es : List Pkt) (s : Int) : Pkt := (es.find? fun p => s == p.seq).getD Pkt.zero
def delP (es : List Pkt) (s : Int) : List Pkt := es.eraseP fun p => s == p.seq

/-- Is it the map from numbers of 64 bits to packets? -/
def pktMapT (P : Program) (t : TypeId) : Bool :=
  match P.underlying t with
  | some (.map k e) => (match P.underlying k with | some (.int .u64) => true | _ => false) && (match (P.info? e).bind (·.zero) with | some (.agg cs) => (match cs.toList with | [.int .u64 0, .int .i64 0, .int .i64 0, .int .i64 0] => true | _ => false) | _ => false)
  | _ => false

/-- Which block it reads. -/
def locOf : AV → Option Nat
  | .e (.s (.ptr l _)) | .e (.s (.rp l _ _ _)) | .e (.s (.mp l)) => some l
  | _ => none

inductive Rd where
  | none
  | at (l : Nat) (r : AB → R)

def readA (P : Program) (fr : List AV) : Op → Rd
  | .load t x => match opnd fr x with
    | .e (.s (.ptr l o)) => .at l (loadA P t (.ptr l o))
    | .e (.s (.rp l k i o)) => .at l (loadA P t (.rp l k i o))
    | _ => .none
  | .call { callee := .builtin .len, args, argTypes } => match args.toList.map (opnd fr), argTypes.toList with
    | [.e (.s (.mp l))], [t] => if pktMapT P t then .at l fun | .pm es => .v (.d (.int .i64 es.length)) | _ => .bad else .none
    | _, _ => .none
  | _ => .none

/-! ### Trees of decisions -/

inductive T (α : Type) where
  | ret (a : α)
  | ite (b : Bool) (t e : T α)
  | need (p : Prop) (t : T α)
  | both (t e : T α)
  | call (f : Nat) (args : List AV) (H : Heap) (k : AV → Heap → T α)
  | code (n0 : Nat) (c : Code) (σ : St) (k : Exit → St → T α)
  | fail

def T.bind {α β : Type} : T α → (α → T β) → T β
  | .ret a, f => f a
  | .ite b t e, f => .ite b (t.bind f) (e.bind f)
  | .need p t, f => .need p (t.bind f)
  | .both t e, f => .both (t.bind f) (e.bind f)
  | .call g args H k, f => .call g args H fun r H' => (k r H').bind f
  | .code n0 c σ k, f => .code n0 c σ fun e σ' => (k e σ').bind f
  | .fail, _ => .fail

def R.then {α : Type} (k : AV → T α) : R → T α
  | .v x => k x
  | .b t => .ite t (k (.c (.bool true))) (k (.c (.bool false)))
  | .need p r => .need p (r.then k)
  | .bad => .fail

/-! ### Operations that turn memory -/

def SV.val : SV → Option Value
  | .c v | .d v => if v.oneCell' then some v else none
  | _ => none

def vals : List SV → Option (List Value)
  | [] => some []
  | x :: xs => match x.val, vals xs with
    | some v, some vs => some (v :: vs)
    | _, _ => none

def chunksOf (k : Nat) : Nat → List Value → List (List Value)
  | 0, _ => []
  | n + 1, vs => vs.take k :: chunksOf k n (vs.drop k)

def spliceG (g : Nat → List Value) (i o : Nat) (vs : List Value) : Nat → List Value :=
  fun j => if j = i then (g i).take o ++ vs ++ (g i).drop (o + vs.length) else g j

def appendG (g : Nat → List Value) (i n : Nat) (g2 : Nat → List Value) (i2 : Nat) : Nat → List Value :=
  fun j => if j < n then g (i + j) else g2 (i2 + (j - n))

/-- A row: its element's cells, how many, which. -/
def rowOf (H : Heap) (l : Nat) : Option (Nat × Nat × (Nat → List Value)) :=
  match H[l]? with
  | some (.row _ k n g) => some (k, n, g)
  | some (.ro k n g) => some (k, n, g)
  | some (.lit _ k ch) => some (k, ch.length, fun j => ch.getD j [])
  | _ => none

/-- A row of the call's own. -/
def ownRow (H : Heap) (l : Nat) : Option (Nat × Nat × Nat × (Nat → List Value)) :=
  match H[l]? with
  | some (.row ty k n g) => some (ty, k, n, g)
  | some (.lit ty k ch) => some (ty, k, ch.length, fun j => ch.getD j [])
  | _ => none

/-- How many elements a row may have. -/
def most : Nat := 1000000

def fitE (P : Program) (e k : Nat) : Bool :=
  match P.info? e with
  | some i => i.size == k && decide (i.bytes ≤ 1000) && (match i.zero with | some z => z.cells.size == k | none => false)
  | none => false

def effA (P : Program) (fr : List AV) (H : Heap) : Op → T (AV × Heap)
  | .alloc t => match zeroOf P t with
    | some z => if z.all SV.one then .ret (.e (.s (.ptr H.length 0)), H ++ [.cells t z]) else .fail
    | none => .fail
  | .box t x => match (opnd fr x).cells with
    | some cs => if cs.all SV.one then .ret (.e (.s (.ptr H.length 0)), H ++ [.cells t cs]) else .fail
    | none => .fail
  | .buildSlice t n parts => match elemT P t with
    | some e => match sizeOfT P e, zeroOf P e with
      | some (k + 1), some z => if z.length = k + 1 ∧ n * (k + 1) ≤ 1000 then
          match fillA (fun i => some (i * (k + 1), k + 1)) (List.replicate n z).flatten (parts.toList.map fun (i, x) => (i, opnd fr x)) with
          | some cs => match vals cs with
            | some vs => .ret (.e (.s (.sl H.length (k + 1) 0 n 0)), H ++ [.lit e (k + 1) (chunksOf (k + 1) n vs)])
            | none => .fail
          | none => .fail
        else .fail
      | _, _ => .fail
    | none => .fail
  | .store t a x => match opnd fr a, (opnd fr x).cells, sizeOfT P t with
    | .e (.s (.ptr l o)), some cs, some s => match H[l]? with
      | some (.cells ty ds) => if cs.length = s ∧ o + s ≤ ds.length ∧ cs.all SV.one then .ret (undefA, H.set l (.cells ty (ds.take o ++ cs ++ ds.drop (o + s)))) else .fail
      | _ => .fail
    | .e (.s (.rp l k' i o)), some cs, some s => match H[l]?, vals cs with
      | some (.row ty k n g), some vs => if k' = k ∧ vs.length = s ∧ o + s ≤ k then .need (i < n) (.ret (undefA, H.set l (.row ty k n (spliceG g i o vs)))) else .fail
      | _, _ => .fail
    | _, _, _ => .fail
  | .makeMap t none => if pktMapT P t then .ret (.e (.s (.mp H.length)), H ++ [.pm []]) else .fail
  | .mapUpdate t m key x => match opnd fr m, opnd fr key, opnd fr x with
    | .e (.s (.mp l)), .e (.s (.d (.int .u64 s))), .e (.agg cs) => match H[l]?, vals cs with
      | some (.pm es), some [.int .u64 a, .int .i64 b, .int .i64 c, .int .i64 d] => if pktMapT P t then .need (s = a ∧ hasP es a = false) (.ret (undefA, H.set l (.pm (es ++ [⟨a, b, c, d⟩])))) else .fail
      | _, _ => .fail
    | _, _, _ => .fail
  | .lookup t m key true => match opnd fr m, opnd fr key with
    | .e (.s (.mp l)), .e (.s (.d (.int .u64 s))) => match H[l]? with
      | some (.pm es) => if pktMapT P t then .ite (hasP es s) (.ret (.tup [.agg (findP es s).cells, .s (.c (.bool true))], H)) (.ret (.tup [.agg Pkt.zero.cells, .s (.c (.bool false))], H)) else .fail
      | _ => .fail
    | _, _ => .fail
  | .call { callee := .builtin .delete, args, argTypes } => match args.toList.map (opnd fr), argTypes.toList with
    | [.e (.s (.mp l)), .e (.s (.d (.int .u64 s)))], t :: _ => match H[l]? with
      | some (.pm es) => if pktMapT P t then .ret (.tup [], H.set l (.pm (delP es s))) else .fail
      | _ => .fail
    | _, _ => .fail
  | .call { callee := .builtin .append, args, argTypes } => match args.toList.map (opnd fr), argTypes.toList with
    | [.e (.s (.sl l k0 i n _)), .e (.s (.sl l2 k02 i2 m _))], [t, t'] => match ownRow H l, rowOf H l2, elemT P t with
      | some (ty, k, N, g), some (k2, N2, g2), some e => if t = t' ∧ l ≠ l2 ∧ k = k2 ∧ k0 = k ∧ k02 = k ∧ e = ty ∧ fitE P e k = true then
          .need (i + n ≤ N ∧ i2 + m ≤ N2 ∧ n + m ≤ most) (.ret (.e (.s (.sl H.length k 0 (n + m) 0)), H.set l .dead ++ [.row ty k (n + m) (appendG g i n g2 i2)])) else .fail
      | _, _, _ => .fail
    | [.e (.s (.c (.slice none 0 0))), .e (.s (.sl l2 k02 i2 m _))], [t, t'] => match rowOf H l2, elemT P t with
      | some (k2, N2, g2), some e => if t = t' ∧ k02 = k2 ∧ 0 < k2 ∧ fitE P e k2 = true then
          .need (i2 + m ≤ N2 ∧ m ≤ most) (.ret (.e (.s (.sl H.length k2 0 m 0)), H ++ [.row e k2 m (fun j => g2 (i2 + j))])) else .fail
      | _, _ => .fail
    | _, _ => .fail
  | _ => .fail

/-! ### Regions, code, calls -/

inductive G where
  | yes
  | no
  | dyn (b want : Bool)

def guardA (ops : Array Oper) (fr : List AV) : Option (Nat × Bool) → G
  | none => .yes
  | some (j, want) => match (ops[j]?).bind (·.dst) with
    | none => .no
    | some d => match fr[d]? with
      | some (.e (.s (.c (.bool b)))) => if b = want then .yes else .no
      | some (.e (.s (.d (.bool b)))) => .dyn b want
      | _ => .no

abbrev Cl (α : Type) := Nat → List AV → Heap → (AV → Heap → T α) → T α

def hasBody (P : Program) (f : Nat) : Bool := ((P.funcs[f]?).bind (·.body)).isSome

def opT {α : Type} (P : Program) (cl : Cl α) (o : Oper) (fr : List AV) (H : Heap) (k : AV → Heap → T α) : T α :=
  match pureA P fr o.op with
  | .bad => match readA P fr o.op with
    | .at l r => match H[l]? with
      | some B => (r B).then fun v => k v H
      | none => .fail
    | .none => match o.op with
      | .call { callee := .value f, args, .. } => match opnd fr f with
        | .e (.s (.fn f caps)) => match hasBody P f with
          | true => cl f (args.toList.map (opnd fr) ++ caps.map fun p => .e (.s (.ptr p.1 p.2))) H k
          | false => .fail
        | _ => .fail
      | op => (effA P fr H op).bind fun x => k x.1 x.2
  | r => r.then fun v => k v H

def regT {α : Type} (P : Program) (cl : Cl α) (ops : Array Oper) : List Oper → St → (St → T α) → T α
  | [], σ, k => k σ
  | o :: rest, σ, k => match guardA ops σ.fr o.guard with
    | .yes => opT P cl o σ.fr σ.H fun v H' => regT P cl ops rest ⟨put σ.fr o.dst v, H'⟩ k
    | .no => regT P cl ops rest ⟨put σ.fr o.dst undefA, σ.H⟩ k
    | .dyn b want => .ite (b == want) (opT P cl o σ.fr σ.H fun v H' => regT P cl ops rest ⟨put σ.fr o.dst v, H'⟩ k) (regT P cl ops rest ⟨put σ.fr o.dst undefA, σ.H⟩ k)

/-- An order of a region that draws: an operation is taken first; one alone may come up (which loads it waits for, each by a chain); one of two may come up. -/
inductive Ct where
  | done
  | take (i : Nat) (c : Ct)
  | force (i : Nat) (drops : List (List Nat)) (c : Ct)
  | two (i : Nat) (di : List (List Nat)) (ci : Ct) (j : Nat) (dj : List (List Nat)) (cj : Ct)

structure Wa where
  i : Nat
  l : Nat
  B : AB

def keepT {α : Type} (drops : List Nat) : List Wa → Heap → (List Wa → T α) → T α
  | [], _, k => k []
  | x :: ws, H, k => if drops.contains x.i then keepT drops ws H k else .need (H[x.l]? = some x.B) (keepT drops ws H fun ws' => k (x :: ws'))

/-- One operation that is carried out when it comes up. -/
def forceT {α : Type} (P : Program) (cl : Cl α) (ops : Array Oper) (i : Nat) (drops : List (List Nat)) (ws : List Wa) (σ : St) (k : List Wa → St → T α) : T α :=
  match ops[i]? with
  | none => .fail
  | some o => match guardA ops σ.fr o.guard with
    | .dyn _ _ => .fail
    | .no => k ws ⟨put σ.fr o.dst undefA, σ.H⟩
    | .yes => opT P cl o σ.fr σ.H fun v H' => keepT (drops.map fun d => d.getLastD i) ws H' fun ws' => k ws' ⟨put σ.fr o.dst v, H'⟩

def regD {α : Type} (P : Program) (cl : Cl α) (ops : Array Oper) : Ct → List Wa → St → (St → T α) → T α
  | .done, _, σ, k => k σ
  | .take i rest, ws, σ, k => match ops[i]? with
    | none => .fail
    | some o => match guardA ops σ.fr o.guard with
      | .dyn _ _ => .fail
      | .no => regD P cl ops rest ws ⟨put σ.fr o.dst undefA, σ.H⟩ k
      | .yes => match pureA P σ.fr o.op with
        | .bad => match readA P σ.fr o.op with
          | .at l r => match σ.H[l]? with
            | some B => (r B).then fun v => regD P cl ops rest (⟨i, l, B⟩ :: ws) ⟨put σ.fr o.dst v, σ.H⟩ k
            | none => .fail
          | .none => .fail
        | r => r.then fun v => regD P cl ops rest ws ⟨put σ.fr o.dst v, σ.H⟩ k
  | .force i drops rest, ws, σ, k => forceT P cl ops i drops ws σ fun ws' σ' => regD P cl ops rest ws' σ' k
  | .two i di ci j dj cj, ws, σ, k => .both (forceT P cl ops i di ws σ fun ws' σ' => regD P cl ops ci ws' σ' k) (forceT P cl ops j dj ws σ fun ws' σ' => regD P cl ops cj ws' σ' k)

def loopT {α : Type} (body : St → (Exit → St → T α) → T α) : Nat → St → (Exit → St → T α) → T α
  | 0, _, _ => .fail
  | n + 1, σ, k => body σ fun e σ' => match e with
    | .normal => loopT body n σ' k
    | e => k e σ'

def codeT {α : Type} (P : Program) (cl : Cl α) (ord : Nat → Ct) (n0 un : Nat) : Code → St → (Exit → St → T α) → T α
  | .skip, σ, k => k .normal σ
  | .region id ops draw, σ, k => match draw with
    | true => regD P cl ops (ord id) [] σ fun σ' => k .normal σ'
    | false => regT P cl ops ops.toList σ fun σ' => k .normal σ'
  | .seq a b, σ, k => codeT P cl ord n0 un a σ fun e σ' => match e with
    | .normal => codeT P cl ord n0 un b σ' k
    | e => k e σ'
  | .cond c a b, σ, k => match opnd σ.fr c with
    | .e (.s (.c (.bool t))) => match t with
      | true => codeT P cl ord n0 un a σ k
      | false => codeT P cl ord n0 un b σ k
    | .e (.s (.d (.bool t))) => .ite t (codeT P cl ord n0 un a σ k) (codeT P cl ord n0 un b σ k)
    | _ => .fail
  | .block id c, σ, k => codeT P cl ord n0 un c σ fun e σ' => match e with
    | .exit j => if j = id then k .normal σ' else k (.exit j) σ'
    | e => k e σ'
  | .loop c, σ, k => match un with
    | 0 => .code n0 (.loop c) σ k
    | un => loopT (fun σ k => codeT P cl ord n0 un c σ k) un σ k
  | .exit id, σ, k => k (.exit id) σ
  | .ret, σ, k => k .ret σ
  | .label _, σ, k => k .normal σ
  | _, _, _ => .fail

def SV.ref : SV → Nat
  | .ptr l _ | .rp l _ _ _ | .sl l _ _ _ _ | .mp l => l + 1
  | .fn _ caps => caps.foldr (fun p n => max (p.1 + 1) n) 0
  | _ => 0

def refs (cs : List SV) : Nat := cs.foldr (fun x n => max x.ref n) 0

def EV.ref : EV → Nat
  | .s x => x.ref
  | .agg cs => refs cs

def AV.ref : AV → Nat
  | .e x => x.ref
  | .tup vs => vs.foldr (fun x n => max x.ref n) 0

def AB.ref : AB → Nat
  | .cells _ cs => refs cs
  | _ => 0

def refsH (H : Heap) : Nat := H.foldr (fun B n => max B.ref n) 0

/-- Blocks that nothing tells of any more are forgotten. -/
def trim (n0 : Nat) (r : AV) (H : Heap) : Heap :=
  let m := max n0 (max r.ref (refsH (H.take n0)))
  if refsH (H.take m) ≤ m then H.take m else H

def resA (P : Program) (σ : St) : ResultVar → R
  | .tmp t => .v (σ.fr.getD t undefA)
  | .cell a t => match σ.fr.getD a undefA with
    | .e (.s (.ptr l o)) => match σ.H[l]? with
      | some B => loadA P t (.ptr l o) B
      | none => .bad
    | _ => .bad

def resT {α : Type} (P : Program) (σ : St) : List ResultVar → (List EV → T α) → T α
  | [], k => k []
  | x :: xs, k => (resA P σ x).then fun v => match v with
    | .e y => resT P σ xs fun ys => k (y :: ys)
    | .tup _ => .fail

def retT {α : Type} (P : Program) (fn : Func) (n0 : Nat) (σ : St) (k : AV → Heap → T α) : T α :=
  resT P σ fn.results.toList fun vs => match vs with
    | [x] => k (.e x) (trim n0 (.e x) σ.H)
    | vs => k (.tup vs) (trim n0 (.tup vs) σ.H)

inductive Ent where
  | stop
  | summ (g : List AV → Heap → T (AV × Heap))
  | body (ord : Nat → Ct) (un : Nat)

def callT {α : Type} (P : Program) (ent : Nat → Ent) : Nat → Cl α
  | 0, f, args, H, k => .call f args H k
  | m + 1, f, args, H, k => match ent f with
    | .stop => .call f args H k
    | .summ g => (g args H).bind fun x => k x.1 x.2
    | .body ord un => match P.funcs[f]? with
      | some fn => match fn.body with
        | some c => codeT P (callT P ent m) ord H.length un c ⟨args ++ List.replicate (fn.ntmps - args.length) undefA, H⟩ fun e σ => match e with
          | .normal => retT P fn H.length σ k
          | .ret => retT P fn H.length σ k
          | _ => .fail
        | none => .fail
      | none => .fail

end Go.Proofs.Ythckkoledhjmeaa.Ev

/-
  The abstract evaluator: what its data stand for, and that an operation that touches no memory gives what the evaluator says.
-/
namespace Go.Proofs.Ythckkoledhjmeaa.Ev
open Go

structure Env where
  blk : Nat → Nat
  base : Nat → Nat
  cap : Nat → Nat
  nil : Nat → Bool

def SV.conc (E : Env) : SV → Value
  | .c v => v
  | .d v => v
  | .ptr l o => .pointer (some ⟨E.blk l, o, none⟩)
  | .rp l k i o => .pointer (some ⟨E.blk l, E.base l + i * k + o, none⟩)
  | .sl l k i n z => match E.nil l with
    | true => .slice none 0 0
    | false => .slice (some ⟨E.blk l, E.base l + (if i = E.cap l then z else i) * k, none⟩) n (E.cap l - i)
  | .mp l => .map (some (E.blk l))
  | .fn f caps => .func (.func f) #[] (caps.map fun p => Value.pointer (some ⟨E.blk p.1, p.2, none⟩)).toArray

def EV.conc (E : Env) : EV → Value
  | .s x => x.conc E
  | .agg cs => .agg (cs.map (SV.conc E)).toArray

def AV.conc (E : Env) : AV → Value
  | .e x => x.conc E
  | .tup vs => .tuple (vs.map (EV.conc E)).toArray

structure Env.Agree (n : Nat) (E E' : Env) : Prop where
  blk : ∀ l, l < n → E'.blk l = E.blk l
  base : ∀ l, l < n → E'.base l = E.base l
  cap : ∀ l, l < n → E'.cap l = E.cap l
  nil : ∀ l, l < n → E'.nil l = E.nil l

theorem Env.Agree.refl (n : Nat) (E : Env) : Env.Agree n E E := ⟨fun _ _ => rfl, fun _ _ => rfl, fun _ _ => rfl, fun _ _ => rfl⟩

theorem Env.Agree.mono {m n : Nat} {E E' : Env} (h : Env.Agree n E E') (hm : m ≤ n) : Env.Agree m E E' :=
  ⟨fun l hl => h.blk l (by omega), fun l hl => h.base l (by omega), fun l hl => h.cap l (by omega), fun l hl => h.nil l (by omega)⟩

theorem Env.Agree.trans {n : Nat} {E E' E'' : Env} (h : Env.Agree n E E') (k : Env.Agree n E' E'') : Env.Agree n E E'' :=
  ⟨fun l hl => (k.blk l hl).trans (h.blk l hl), fun l hl => (k.base l hl).trans (h.base l hl), fun l hl => (k.cap l hl).trans (h.cap l hl), fun l hl => (k.nil l hl).trans (h.nil l hl)⟩

theorem caps_ref {n : Nat} : ∀ {caps : List (Nat × Nat)}, caps.foldr (fun p n => max (p.1 + 1) n) 0 ≤ n → ∀ p ∈ caps, p.1 < n
  | [], _, p, hp => by cases hp
  | q :: r, h, p, hp => by
    simp only [List.foldr_cons] at h
    rcases List.mem_cons.1 hp with rfl | hp
    · omega
    · exact caps_ref (caps := r) (by omega) p hp

theorem SV.conc_agree {n : Nat} {E E' : Env} (h : Env.Agree n E E') {x : SV} (hx : x.ref ≤ n) : x.conc E' = x.conc E := by
  cases x with
  | c v => rfl
  | d v => rfl
  | ptr l o => simp only [SV.ref] at hx; simp only [SV.conc, h.blk l (by omega)]
  | rp l k i o => simp only [SV.ref] at hx; simp only [SV.conc, h.blk l (by omega), h.base l (by omega)]
  | sl l k i n z => simp only [SV.ref] at hx; simp only [SV.conc, h.blk l (by omega), h.base l (by omega), h.cap l (by omega), h.nil l (by omega)]
  | mp l => simp only [SV.ref] at hx; simp only [SV.conc, h.blk l (by omega)]
  | fn f caps =>
    simp only [SV.ref] at hx
    simp only [SV.conc]
    rw [List.map_congr_left fun p hp => by rw [h.blk p.1 (caps_ref hx p hp)]]

theorem refs_le {n : Nat} : ∀ {cs : List SV}, refs cs ≤ n ↔ ∀ x ∈ cs, x.ref ≤ n
  | [] => by simp [refs]
  | y :: r => by
    have ih := refs_le (n := n) (cs := r)
    simp only [refs, List.foldr_cons, List.mem_cons, forall_eq_or_imp] at ih ⊢
    rw [← ih]; omega

theorem SV.map_agree {n : Nat} {E E' : Env} (h : Env.Agree n E E') {cs : List SV} (hx : refs cs ≤ n) : cs.map (SV.conc E') = cs.map (SV.conc E) :=
  List.map_congr_left fun x hm => SV.conc_agree h (refs_le.1 hx x hm)

theorem EV.conc_agree {n : Nat} {E E' : Env} (h : Env.Agree n E E') {x : EV} (hx : x.ref ≤ n) : x.conc E' = x.conc E := by
  cases x with
  | s x => exact SV.conc_agree h hx
  | agg cs => simp only [EV.conc, SV.map_agree h hx]

theorem tup_ref {n : Nat} : ∀ {vs : List EV}, vs.foldr (fun x n => max x.ref n) 0 ≤ n ↔ ∀ x ∈ vs, x.ref ≤ n
  | [] => by simp
  | y :: r => by
    have ih := tup_ref (n := n) (vs := r)
    simp only [List.foldr_cons, List.mem_cons, forall_eq_or_imp] at ih ⊢
    rw [← ih]; omega

theorem AV.conc_agree {n : Nat} {E E' : Env} (h : Env.Agree n E E') {x : AV} (hx : x.ref ≤ n) : x.conc E' = x.conc E := by
  cases x with
  | e x => exact EV.conc_agree h hx
  | tup vs =>
    simp only [AV.conc]
    rw [List.map_congr_left fun x hm => EV.conc_agree h (tup_ref.1 hx x hm)]

/-- A slice is of a row's own. -/
def SV.ok (E : Env) : SV → Prop
  | .sl l _ i n _ => (E.nil l = true → n = 0) ∧ (E.nil l = false → i + n ≤ E.cap l)
  | _ => True

def EV.svs : EV → List SV
  | .s x => [x]
  | .agg cs => cs

def AV.svs : AV → List SV
  | .e x => x.svs
  | .tup vs => vs.flatMap EV.svs

def AV.ok (E : Env) (v : AV) : Prop := ∀ x ∈ v.svs, x.ok E

theorem SV.ok_agree {n : Nat} {E E' : Env} (h : Env.Agree n E E') {x : SV} (hx : x.ref ≤ n) (ho : x.ok E) : x.ok E' := by
  cases x <;> simp only [SV.ok] at ho ⊢
  case sl l k i m z =>
    simp only [SV.ref] at hx
    rw [h.nil l (by omega), h.cap l (by omega)]
    exact ho

theorem AV.svs_ref {n : Nat} {v : AV} (hv : v.ref ≤ n) : ∀ x ∈ v.svs, x.ref ≤ n := by
  cases v with
  | e x => cases x with
    | s y => intro x hx; simp only [AV.svs, EV.svs, List.mem_singleton] at hx; subst hx; exact hv
    | agg cs => exact refs_le.1 hv
  | tup vs =>
    intro x hx
    simp only [AV.svs, List.mem_flatMap] at hx
    obtain ⟨y, hy, hx⟩ := hx
    have h1 := tup_ref.1 hv y hy
    cases y with
    | s y => simp only [EV.svs, List.mem_singleton] at hx; subst hx; exact h1
    | agg cs => exact refs_le.1 h1 x hx

theorem AV.ok_agree {n : Nat} {E E' : Env} (h : Env.Agree n E E') {v : AV} (hv : v.ref ≤ n) (ho : v.ok E) : v.ok E' :=
  fun x hx => SV.ok_agree h (AV.svs_ref hv x hx) (ho x hx)

/-! ### Frames -/

structure FRep (E : Env) (n : Nat) (fr : List AV) (a : Act) : Prop where
  tmps : a.tmps = (fr.map (AV.conc E)).toArray
  sc : ∀ x ∈ fr, x.ref ≤ n
  ok : ∀ x ∈ fr, x.ok E
  defers : a.defers = []

theorem FRep.eval {E : Env} {n : Nat} {fr : List AV} {a : Act} (h : FRep E n fr a) (x : Operand) : a.eval x = (opnd fr x).conc E := by
  cases x with
  | tmp t =>
    simp only [Act.eval, opnd, h.tmps]
    by_cases ht : t < fr.length
    · simp [ht]
    · simp [AV.conc, undef, Array.getD, ht]
  | const v => rfl
  | global g => rfl
  | func f => rfl

theorem FRep.opnd_ref {E : Env} {n : Nat} {fr : List AV} {a : Act} (h : FRep E n fr a) (x : Operand) : (opnd fr x).ref ≤ n := by
  cases x with
  | tmp t =>
    simp only [opnd]
    rw [List.getD_eq_getElem?_getD]
    cases hx : fr[t]? with
    | none => simp [AV.ref]
    | some x => exact h.sc x (List.mem_of_getElem? hx)
  | const v => simp [opnd, AV.ref, EV.ref, SV.ref]
  | global g => simp [opnd, AV.ref, EV.ref, SV.ref]
  | func f => simp [opnd, AV.ref, EV.ref, SV.ref]

theorem FRep.opnd_ok {E : Env} {n : Nat} {fr : List AV} {a : Act} (h : FRep E n fr a) (x : Operand) : (opnd fr x).ok E := by
  cases x with
  | tmp t =>
    simp only [opnd]
    rw [List.getD_eq_getElem?_getD]
    cases hx : fr[t]? with
    | none => intro x hx; simp [AV.svs] at hx
    | some x => exact h.ok x (List.mem_of_getElem? hx)
  | const v => intro x hx; simp only [opnd, AV.c, AV.svs, EV.svs, List.mem_singleton] at hx; subst hx; trivial
  | global g => intro x hx; simp only [opnd, AV.c, AV.svs, EV.svs, List.mem_singleton] at hx; subst hx; trivial
  | func f => intro x hx; simp only [opnd, AV.svs, EV.svs, List.mem_singleton] at hx; subst hx; trivial

theorem FRep.put {E : Env} {n : Nat} {fr : List AV} {a : Act} (h : FRep E n fr a) (dst : Option Tmp) (v : AV) (hv : v.ref ≤ n) (ho : v.ok E) : FRep E n (put fr dst v) (a.put dst (v.conc E)) := by
  cases dst with
  | none => exact h
  | some d =>
    refine ⟨?_, fun x hx => ?_, fun x hx => ?_, h.defers⟩
    · simp only [Act.put, Ev.put, h.tmps, List.map_set]
      simp
    · rcases List.mem_or_eq_of_mem_set hx with hx | rfl
      · exact h.sc x hx
      · exact hv
    · rcases List.mem_or_eq_of_mem_set hx with hx | rfl
      · exact h.ok x hx
      · exact ho

theorem FRep.agree {E E' : Env} {n n' : Nat} {fr : List AV} {a : Act} (h : FRep E n fr a) (hE : Env.Agree n E E') (hn : n ≤ n') : FRep E' n' fr a :=
  ⟨by rw [h.tmps, List.map_congr_left fun x hx => AV.conc_agree hE (h.sc x hx)], fun x hx => Nat.le_trans (h.sc x hx) hn, fun x hx => AV.ok_agree hE (h.sc x hx) (h.ok x hx), h.defers⟩

/-! ### What an operation without memory gives -/

def R.gives : R → AV → Prop
  | .v x, y => x = y
  | .b t, y => y = .c (.bool t)
  | .need p r, y => p ∧ r.gives y
  | .bad, _ => False

end Go.Proofs.Ythckkoledhjmeaa.Ev

/-
  The abstract evaluator: an operation that touches no memory gives what the evaluator says, in every world.
-/
namespace Go.Proofs.Ythckkoledhjmeaa.Ev
open Go

section
variable {P : Program} {E : Env} {n : Nat} {fr : List AV} {a : Act}

theorem run_sizeOf {t : TypeId} {s : Nat} (h : sizeOfT P t = some s) (w : World) : (sizeOf t).run P w = .ok s w := by
  simp only [sizeOfT, Option.map_eq_some_iff] at h
  obtain ⟨i, hi, rfl⟩ := h
  simp [sizeOf, typeInfo, hi]

theorem run_zeroValue {t : TypeId} {z : List SV} (h : zeroOf P t = some z) (E : Env) (w : World) :
    ∃ v : Value, (zeroValue t).run P w = .ok v w ∧ v.cells.toList = z.map (SV.conc E) ∧ (z.all SV.one = true → ∀ x ∈ v.cells.toList, x.oneCell' = true) := by
  simp only [zeroOf, Option.map_eq_some_iff, Option.bind_eq_some_iff] at h
  obtain ⟨v, ⟨i, hi, hz⟩, rfl⟩ := h
  refine ⟨v, by simp [zeroValue, typeInfo, hi, hz], ?_, ?_⟩
  · rw [List.map_map]
    conv => lhs; rw [← List.map_id v.cells.toList]
    exact List.map_congr_left fun x _ => rfl
  · intro ho x hx
    have := List.all_eq_true.1 ho (SV.c x) (List.mem_map_of_mem hx)
    exact this

theorem zeroOf_ref {t : TypeId} {z : List SV} (h : zeroOf P t = some z) : refs z ≤ 0 := by
  simp only [zeroOf, Option.map_eq_some_iff] at h
  obtain ⟨v, _, rfl⟩ := h
  rw [refs_le]
  intro x hx
  obtain ⟨y, _, rfl⟩ := List.mem_map.1 hx
  simp [SV.ref]

theorem run_isAgg {t : TypeId} {b : Bool} (h : aggT P t = some b) (w : World) : (isAgg t).run P w = .ok b w := by
  unfold aggT at h
  cases hu : P.underlying t with
  | none => simp [hu] at h
  | some d =>
    rw [hu] at h
    cases d <;> simp_all [isAgg, run_underlying hu]

theorem one_conc {x : SV} (h : x.one = true) : (x.conc E).oneCell' = true := by
  cases x <;> simp only [SV.conc]
  case c v => exact h
  case d v => exact h
  case sl l k i n z => cases E.nil l <;> rfl
  all_goals rfl

theorem cells_of_one {v : Value} (h : v.oneCell' = true) : v.cells = #[v] := by
  cases v <;> first | rfl | (simp [Value.oneCell'] at h)

theorem cells_conc {v : AV} {cs : List SV} (h : v.cells = some cs) : (v.conc E).cells.toList = cs.map (SV.conc E) := by
  cases v with
  | tup vs => simp [AV.cells] at h
  | e x =>
    cases x with
    | s y =>
      simp only [AV.cells] at h
      split at h
      · rename_i hy
        simp only [Option.some.injEq] at h
        subst h
        simp [AV.conc, EV.conc, cells_of_one (one_conc hy)]
      · cases h
    | agg ds =>
      simp only [AV.cells, Option.some.injEq] at h
      subst h
      simp [AV.conc, EV.conc, Value.cells]

theorem cells_ref {v : AV} {cs : List SV} (h : v.cells = some cs) (hv : v.ref ≤ n) : refs cs ≤ n := by
  cases v with
  | tup vs => simp [AV.cells] at h
  | e x =>
    cases x with
    | s y =>
      simp only [AV.cells] at h
      split at h
      · simp only [Option.some.injEq] at h
        subst h
        simpa [refs, AV.ref, EV.ref] using hv
      · cases h
    | agg ds =>
      simp only [AV.cells, Option.some.injEq] at h
      subst h
      exact hv

theorem run_fieldOff {s : TypeId} {f off : Nat} {ft : TypeId} (h : fieldOff P s f = some (off, ft)) :
    ∃ fs x, P.underlying s = some (.struct fs) ∧ fs[f]? = some x ∧ x.offset = off ∧ x.type = ft ∧ ∃ k, sizeOfT P ft = some (k + 1) := by
  unfold fieldOff at h
  cases hu : P.underlying s with
  | none => simp [hu] at h
  | some d =>
    cases d <;> simp only [hu] at h <;> try (cases h; done)
    rename_i fs
    cases hf : fs[f]? with
    | none => simp [hf] at h
    | some x =>
      simp only [hf] at h
      cases hs : sizeOfT P x.type with
      | none => simp [hs] at h
      | some m =>
        cases m with
        | zero => simp [hs] at h
        | succ k =>
          simp only [hs, Option.some.injEq, Prod.mk.injEq] at h
          obtain ⟨rfl, rfl⟩ := h
          exact ⟨fs, x, rfl, hf, rfl, rfl, k, hs⟩

theorem run_fieldAt {s : TypeId} {f off : Nat} {ft : TypeId} (h : fieldOff P s f = some (off, ft)) (b o : Nat) (w : World) :
    (Instr.fieldAt s (.pointer (some ⟨b, o, none⟩)) f).run P w = .ok (.pointer (some ⟨b, o + off, none⟩)) w := by
  obtain ⟨fs, x, hu, hf, rfl, rfl, k, hs⟩ := run_fieldOff h
  have hadd : (⟨b, o, none⟩ : Addr).add x.offset = ⟨b, o + x.offset, none⟩ := by unfold Addr.add; split <;> simp_all
  simp [Instr.fieldAt, run_underlying hu, hf, Instr.sureAddr, fieldPlace, run_sizeOf hs, hadd]

theorem run_elemT {t e : TypeId} (h : elemT P t = some e) : P.underlying t = some (.slice e) := by
  unfold elemT at h
  cases hu : P.underlying t with
  | none => simp [hu] at h
  | some d => cases d <;> simp_all

theorem asInt_conc {v : AV} {j : Int} (h : asInt v = some j) : ∃ k, v.conc E = .int k j := by
  unfold asInt at h
  split at h
  · cases h; exact ⟨_, rfl⟩
  · cases h; exact ⟨_, rfl⟩
  · cases h

/-! ### Filling -/

theorem foldl_set (cs : List Value) (off : Nat) : ∀ (j : Nat) (acc : Array Value), off + j + cs.length ≤ acc.size →
    ((cs.zipIdx j).foldl (fun cs (c, j) => cs.setIfInBounds (off + j) c) acc).toList = acc.toList.take (off + j) ++ cs ++ acc.toList.drop (off + j + cs.length) := by
  induction cs with
  | nil => intro j acc _; simp
  | cons c cs ih =>
    intro j acc h
    simp only [List.length_cons] at h
    simp only [List.zipIdx_cons, List.foldl_cons]
    rw [ih (j + 1) _ (by simp; omega)]
    have hlt : off + j < acc.toList.length := by simp; omega
    rw [Array.toList_setIfInBounds]
    generalize acc.toList = l at hlt ⊢
    have h1 : off + (j + 1) = off + j + 1 := by omega
    have h2 : off + (j + 1) + cs.length = off + j + (cs.length + 1) := by omega
    rw [h2, h1, List.drop_set_of_lt (by omega), List.take_add_one, List.take_set_of_le (by omega), List.getElem?_set_self hlt]
    simp

theorem fill_conc (place : Nat → Option (Nat × Nat)) : ∀ (parts : List (Nat × AV)) (cells cs : List SV) (acc : Array Value), fillA place cells parts = some cs → acc.toList = cells.map (SV.conc E) →
    ∃ out : Array Value, Instr.fill place acc (parts.map fun (i, v) => (i, v.conc E)) = some out ∧ out.toList = cs.map (SV.conc E)
  | [], cells, cs, acc, h, ha => by
    simp only [fillA, Option.some.injEq] at h
    subst h
    exact ⟨acc, rfl, ha⟩
  | (i, v) :: rest, cells, cs, acc, h, ha => by
    simp only [fillA] at h
    cases hp : place i with
    | none => simp [hp] at h
    | some os =>
      obtain ⟨off, size⟩ := os
      cases hv : v.cells with
      | none => simp [hp, hv] at h
      | some ds =>
        simp only [hp, hv] at h
        split at h
        · rename_i hc
          obtain ⟨h1, h2⟩ := hc
          have hds := cells_conc (E := E) hv
          have hlen : (v.conc E).cells.size = size := by rw [← Array.length_toList, hds, List.length_map, h1]
          have hacc : acc.size = cells.length := by rw [← Array.length_toList, ha, List.length_map]
          have hfold := foldl_set (v.conc E).cells.toList off 0 acc (by simp only [Array.length_toList, hlen, hacc]; omega)
          obtain ⟨out, ho, hout⟩ := fill_conc place rest _ cs ((v.conc E).cells.toList.zipIdx.foldl (fun cs (c, j) => cs.setIfInBounds (off + j) c) acc) h (by
            rw [hfold, ha, hds]
            simp [h1])
          refine ⟨out, ?_, hout⟩
          simp only [List.map_cons, Instr.fill, hp]
          rw [if_neg (by simp [hlen, hacc]; omega)]
          rw [← ho]
          congr 1
          rw [← Array.foldl_toList, Array.toList_zipIdx]
        · cases h

theorem fillA_ref (place : Nat → Option (Nat × Nat)) : ∀ (parts : List (Nat × AV)) (cells cs : List SV), fillA place cells parts = some cs → refs cells ≤ n → (∀ x ∈ parts, x.2.ref ≤ n) → refs cs ≤ n
  | [], cells, cs, h, hc, _ => by
    simp only [fillA, Option.some.injEq] at h
    subst h
    exact hc
  | (i, v) :: rest, cells, cs, h, hc, hp => by
    simp only [fillA] at h
    cases hpl : place i with
    | none => simp [hpl] at h
    | some os =>
      obtain ⟨off, size⟩ := os
      cases hv : v.cells with
      | none => simp [hpl, hv] at h
      | some ds =>
        simp only [hpl, hv] at h
        split at h
        · refine fillA_ref place rest _ cs h ?_ fun x hx => hp x (List.mem_cons_of_mem _ hx)
          have hd := cells_ref hv (hp (i, v) (by simp))
          rw [refs_le] at *
          intro x hx
          rcases List.mem_append.1 hx with hx | hx
          · rcases List.mem_append.1 hx with hx | hx
            · exact hc x (List.mem_of_mem_take hx)
            · exact hd x hx
          · exact hc x (List.mem_of_mem_drop hx)
        · cases h

theorem run_places : ∀ (fs : List Field) (ps : List (Nat × Nat)), placesOf P fs = some ps → ∀ w, (fs.mapM (m := Sem) fun f => do pure (f.offset, ← sizeOf f.type)).run P w = .ok ps w
  | [], ps, h, w => by
    simp only [placesOf, List.mapM_nil] at h
    cases h
    simp
  | f :: fs, ps, h, w => by
    simp only [placesOf, List.mapM_cons] at h
    cases hs : sizeOfT P f.type with
    | none => simp [hs] at h
    | some k =>
      cases hr : placesOf P fs with
      | none => simp only [placesOf] at hr; simp [hs, hr] at h
      | some qs =>
        have ih := run_places fs qs hr w
        simp only [placesOf] at hr
        simp [hs, hr] at h
        subst h
        simp only [bind_pure_comp] at ih
        simp [List.mapM_cons, run_sizeOf hs, ih]

/-- What the operation gives, told in one word. -/
abbrev Gives (P : Program) (E : Env) (a : Act) (o : Oper) (v : AV) : Prop := ∀ w, (execOp a.eval o).run P w = .ok (.value (v.conc E)) w

theorem gives_intOp {op : BinOp} {k : IntKind} {mk : Value → SV} {x y : Int} {v : AV} (hmk : ∀ v, (mk v).conc E = v) (hm0 : ∀ v, (mk v).ref = 0) (h : (intOp op k mk x y).gives v) (hc : cmpOp op x y = none) (w : World) :
    (binOp op 0 (.int k x) (.int k y)).run P w = .ok (v.conc E) w ∧ v.ref = 0 := by
  unfold intOp at h
  cases op <;> simp only [R.gives] at h <;> (try (cases h; done)) <;> (try (simp [cmpOp] at hc; done))
  case add => subst h; simp [binOp, Op.intArith, AV.conc, EV.conc, hmk, AV.ref, EV.ref, hm0]
  case sub => subst h; simp [binOp, Op.intArith, AV.conc, EV.conc, hmk, AV.ref, EV.ref, hm0]
  case mul => subst h; simp [binOp, Op.intArith, AV.conc, EV.conc, hmk, AV.ref, EV.ref, hm0]
  case quo => obtain ⟨h0, rfl⟩ := h; simp [binOp, Op.intDiv, h0, AV.conc, EV.conc, hmk, AV.ref, EV.ref, hm0]
  case rem => obtain ⟨h0, rfl⟩ := h; simp [binOp, Op.intDiv, h0, AV.conc, EV.conc, hmk, AV.ref, EV.ref, hm0]

theorem binOp_int_type (op : BinOp) (t t' : TypeId) (k : IntKind) (x y : Int) : binOp op t (.int k x) (.int k y) = binOp op t' (.int k x) (.int k y) := by
  cases op <;> simp [binOp]

theorem run_cmp {op : BinOp} {k : IntKind} {x y : Int} {r : Bool} (h : cmpOp op x y = some r) (t : TypeId) (w : World) : (binOp op t (.int k x) (.int k y)).run P w = .ok (.bool r) w := by
  cases op <;> simp only [cmpOp, Option.some.injEq] at h <;> (try (cases h; done)) <;> subst h <;> simp [binOp, Op.intCmp]

theorem gives_int2 {op : BinOp} {st : Bool} {k k' : IntKind} {x y : Int} {v : AV} (h : (int2 op st k k' x y).gives v) (t : TypeId) (w : World) :
    k = k' ∧ (binOp op t (.int k x) (.int k' y)).run P w = .ok (v.conc E) w ∧ v.ref = 0 := by
  unfold int2 at h
  split at h
  · rename_i hk
    subst hk
    refine ⟨rfl, ?_⟩
    cases hc : cmpOp op x y with
    | some r =>
      rw [hc] at h
      rw [run_cmp hc]
      cases st <;> simp only [Bool.false_eq_true, if_false, if_true, R.gives] at h <;> subst h <;> simp [AV.conc, EV.conc, SV.conc, AV.ref, EV.ref, SV.ref]
    | none =>
      rw [hc] at h
      rw [binOp_int_type op t 0]
      refine gives_intOp (mk := if st then SV.c else SV.d) ?_ ?_ h hc w
      · intro v; cases st <;> rfl
      · intro v; cases st <;> rfl
  · cases h

theorem num_conc {x : SV} {k : IntKind} {m : Int} (h : x.num = some (k, m)) : x.conc E = .int k m := by
  unfold SV.num at h
  split at h <;> simp_all [SV.conc]

theorem eqCells_len : ∀ {xs ys : List SV} {r : Bool}, eqCells xs ys = some r → xs.length = ys.length
  | [], [], _, _ => rfl
  | [], _ :: _, _, h => by simp [eqCells] at h
  | _ :: _, [], _, h => by simp [eqCells] at h
  | x :: xs, y :: ys, r, h => by
    simp only [eqCells] at h
    cases hx : x.num with
    | none => simp [hx] at h
    | some p => cases hy : y.num with
      | none => simp [hx, hy] at h
      | some q =>
        obtain ⟨k, a⟩ := p
        obtain ⟨k', b⟩ := q
        simp only [hx, hy] at h
        split at h
        · obtain ⟨r', hr, _⟩ := Option.map_eq_some_iff.1 h
          simp [eqCells_len hr]
        · cases h

theorem run_part_int {t : TypeId} (ht : intT P t = true) {cs : Array Value} {i : Nat} {v : Value} (h : cs[i]? = some v) (w : World) : (part t cs i).run P w = .ok v w := by
  have ha : aggT P t = some false := by
    unfold intT at ht
    unfold aggT
    cases hu : P.underlying t with
    | none => simp [hu] at ht
    | some d => cases d <;> simp_all
  simp [part, run_isAgg ha, h]

theorem run_eqFields (d : Nat) (xs ys : List SV) : ∀ (fs : List Field) (j : Nat) (r : Bool), flatFields P fs j = true → eqCells (xs.drop j) (ys.drop j) = some r → (xs.drop j).length = fs.length → ∀ w,
    (Op.eqFields (d + 1) (xs.map (SV.conc E)).toArray (ys.map (SV.conc E)).toArray fs).run P w = .ok r w
  | [], j, r, _, he, hl, w => by
    have hx : xs.drop j = [] := List.eq_nil_of_length_eq_zero (by simpa using hl)
    have hy : ys.drop j = [] := List.eq_nil_of_length_eq_zero (by rw [← eqCells_len he, hx]; rfl)
    rw [hx, hy] at he
    simp only [eqCells, Option.some.injEq] at he
    subst he
    simp [Op.eqFields]
  | f :: fs, j, r, hf, he, hl, w => by
    simp only [flatFields, Bool.and_eq_true, bne_iff_ne, ne_eq, beq_iff_eq] at hf
    obtain ⟨⟨⟨h1, h2⟩, h3⟩, h4⟩ := hf
    cases hx : xs.drop j with
    | nil => rw [hx] at hl; simp at hl
    | cons x xs' =>
      cases hy : ys.drop j with
      | nil => rw [hx, hy] at he; simp [eqCells] at he
      | cons y ys' =>
        have hx' : xs.drop (j + 1) = xs' := by rw [← List.drop_drop, hx]; rfl
        have hy' : ys.drop (j + 1) = ys' := by rw [← List.drop_drop, hy]; rfl
        rw [hx, hy] at he
        rw [hx] at hl
        simp only [eqCells] at he
        cases hxn : x.num with
        | none => simp [hxn] at he
        | some p => cases hyn : y.num with
          | none => simp [hxn, hyn] at he
          | some q =>
            obtain ⟨k, a⟩ := p
            obtain ⟨k', b⟩ := q
            simp only [hxn, hyn] at he
            split at he
            · rename_i hk
              subst hk
              obtain ⟨r', hr, hrr⟩ := Option.map_eq_some_iff.1 he
              have ex : (xs.map (SV.conc E)).toArray[j]? = some (.int k a) := by
                have : xs[j]? = some x := by rw [← List.head?_drop, hx]; rfl
                simp [this, num_conc hxn]
              have ey : (ys.map (SV.conc E)).toArray[j]? = some (.int k b) := by
                have : ys[j]? = some y := by rw [← List.head?_drop, hy]; rfl
                simp [this, num_conc hyn]
              have ih := run_eqFields d xs ys fs (j + 1) r' h4 (by rw [hx', hy']; exact hr) (by rw [hx']; simpa using hl) w
              have hu : ∃ q, P.underlying f.type = some (.int q) := by
                unfold intT at h3
                cases hu : P.underlying f.type with
                | none => simp [hu] at h3
                | some d => cases d <;> simp_all
              obtain ⟨q, hu⟩ := hu
              subst hrr
              simp only [Op.eqFields, ne_eq, h1, not_false_eq_true, if_true, h2, Sem.run_bind, run_part_int h3 ex, run_part_int h3 ey, Result.andThen_ok, run_equalIn_int w d f.type k q a b hu]
              cases hab : a == b <;> simp [ih]
            · cases he

theorem flat_conds {t : TypeId} {m : Nat} (h : flatT P t m = true) : ∃ fs, P.underlying t = some (.struct fs) ∧ fs.toList.length = m ∧ flatFields P fs.toList 0 = true ∧ P.eqGuardType P.depth t = false ∧ P.stoodInHeld t = false := by
  unfold flatT at h
  cases hu : P.underlying t with
  | none => simp [hu] at h
  | some d =>
    cases d <;> simp only [hu] at h <;> try (cases h; done)
    rename_i fs
    simp only [Bool.and_eq_true, beq_iff_eq, Bool.not_eq_true'] at h
    exact ⟨fs, rfl, h.1.1.1, h.1.1.2, h.1.2, h.2⟩

theorem run_eqFlat {t : TypeId} {xs ys : List SV} {r : Bool} (ht : flatT P t xs.length = true) (he : eqCells xs ys = some r) (w : World) :
    (Op.equalIn 10000 t (.agg (xs.map (SV.conc E)).toArray) (.agg (ys.map (SV.conc E)).toArray)).run P w = .ok r w := by
  obtain ⟨fs, hu, hl, hf, _, hs⟩ := flat_conds ht
  have hfo : P.fieldsOf t = fs := by unfold Program.fieldsOf; rw [hu]
  rw [run_equalIn_agg w 9999 t _ _ (by rw [hfo]; exact hu) hs, hfo]
  exact run_eqFields 9998 xs ys fs.toList 0 r hf (by simpa using he) (by simpa using hl.symm) w

/-- A test for equality, guard and all. -/
abbrev RunBin (P : Program) (op : BinOp) (t : TypeId) (ox oy : Operand) (x y v : Value) : Prop :=
  ∀ w, (do eqGuard op t ox oy x y; binOp op t x y : Sem Value).run P w = .ok v w

theorem runBin_int {op : BinOp} {t : TypeId} {ox oy : Operand} {k k' : IntKind} {x y : Int} {v : Value} (h : ∀ w, (binOp op t (.int k x) (.int k' y)).run P w = .ok v w) : RunBin P op t ox oy (.int k x) (.int k' y) v := by
  intro w
  cases op <;> simp [eqGuard, h]

theorem run_eqPtr (d : Nat) {t e : TypeId} (hu : P.underlying t = some (.pointer e)) (x : Addr) (w : World) : (Op.equalIn (d + 1) t (.pointer (some x)) (.pointer none)).run P w = .ok false w := by
  simp [Op.equalIn, run_underlying hu]

theorem run_eqNil (d : Nat) {t e : TypeId} (hu : P.underlying t = some (.pointer e)) (w : World) : (Op.equalIn (d + 1) t (.pointer none) (.pointer none)).run P w = .ok true w := by
  simp [Op.equalIn, run_underlying hu]

theorem runBin_of {neg : Bool} {t : TypeId} {x y : Value} {r : Bool} (h : ∀ w, (Op.equalIn 10000 t x y).run P w = .ok r w) (ox oy : Operand)
    (hg : ∀ op w, (eqGuard op t ox oy x y).run P w = .ok () w) (he : binOp .eql t x y = do pure (.bool (← Op.equal t x y))) (hn : binOp .neq t x y = do pure (.bool (!(← Op.equal t x y)))) :
    RunBin P (if neg then .neq else .eql) t ox oy x y (.bool (if neg then !r else r)) := by
  intro w
  have h' : ∀ w, (Op.equal t x y).run P w = .ok r w := h
  cases neg
  · simp only [Bool.false_eq_true, if_false, Sem.run_bind, hg, Result.andThen_ok, he, h', Sem.run_pure]
  · simp only [if_true, Sem.run_bind, hg, Result.andThen_ok, hn, h', Sem.run_pure]

theorem gives_eqOp {op : BinOp} {neg : Bool} (hop : op = if neg then .neq else .eql) {t : TypeId} {x y v : AV} (h : (eqOp P t neg x y).gives v) (ox oy : Operand) :
    RunBin P op t ox oy (x.conc E) (y.conc E) (v.conc E) ∧ v.ref = 0 := by
  subst hop
  unfold eqOp at h
  split at h
  · split at h
    · rename_i a b _ hc
      have hu : P.underlying t = some .bool := by
        cases hu : P.underlying t with
        | none => simp [hu] at hc
        | some d => cases d <;> simp_all
      subst h
      have h1 := runBin_of (P := P) (neg := neg) (fun w => run_equalIn_bool' w 9999 t a b hu) ox oy (fun op w => by cases op <;> simp [eqGuard]) (by simp [binOp]) (by simp [binOp])
      exact ⟨h1, rfl⟩
    · cases h
  · split at h
    · rename_i l o _ _ hc
      obtain ⟨e, hu⟩ : ∃ e, P.underlying t = some (.pointer e) := by
        cases hu : P.underlying t with
        | none => simp [hu] at hc
        | some d => cases d <;> simp_all
      subst h
      have h1 := runBin_of (P := P) (neg := neg) (fun w => run_eqPtr 9999 hu ⟨E.blk l, o, none⟩ w) ox oy (fun op w => by cases op <;> simp [eqGuard]) (by simp [binOp]) (by simp [binOp])
      refine ⟨?_, rfl⟩
      cases neg <;> exact h1
    · cases h
  · split at h
    · rename_i hc
      obtain ⟨e, hu⟩ : ∃ e, P.underlying t = some (.pointer e) := by
        cases hu : P.underlying t with
        | none => simp [hu] at hc
        | some d => cases d <;> simp_all
      subst h
      have h1 := runBin_of (P := P) (neg := neg) (fun w => run_eqNil 9999 hu w) ox oy (fun op w => by cases op <;> simp [eqGuard]) (by simp [binOp]) (by simp [binOp])
      refine ⟨?_, rfl⟩
      cases neg <;> exact h1
    · cases h
  · split at h
    · rename_i xs ys hf
      split at h
      · rename_i r hr
        have h1 := fun w => run_eqFlat (E := E) hf hr w
        obtain ⟨_, _, _, _, hg, _⟩ := flat_conds hf
        simp only [R.gives] at h
        subst h
        exact ⟨runBin_of h1 ox oy (fun op w => run_eqGuard_agg w op t ox oy _ _ hg) (by simp [binOp]) (by simp [binOp]), rfl⟩
      · cases h
    · cases h
  · cases h

theorem gives_binA {op : BinOp} {t : TypeId} {x y v : AV} (h : (binA P op t x y).gives v) (ox oy : Operand) :
    RunBin P op t ox oy (x.conc E) (y.conc E) (v.conc E) ∧ v.ref = 0 := by
  unfold binA at h
  split at h
  · exact ⟨runBin_int fun w => (gives_int2 h t w).2.1, (gives_int2 (P := P) (E := E) h t default).2.2⟩
  · exact ⟨runBin_int fun w => (gives_int2 h t w).2.1, (gives_int2 (P := P) (E := E) h t default).2.2⟩
  · exact ⟨runBin_int fun w => (gives_int2 h t w).2.1, (gives_int2 (P := P) (E := E) h t default).2.2⟩
  · exact ⟨runBin_int fun w => (gives_int2 h t w).2.1, (gives_int2 (P := P) (E := E) h t default).2.2⟩
  · split at h
    · exact gives_eqOp rfl h ox oy
    · exact gives_eqOp (neg := true) rfl h ox oy
    · cases h

end
end Go.Proofs.Ythckkoledhjmeaa.Ev

/-
  The abstract evaluator: every operation that touches no memory.
-/
namespace Go.Proofs.Ythckkoledhjmeaa.Ev
open Go

section
variable {P : Program} {E : Env} {n : Nat} {fr : List AV} {a : Act}

theorem capsOf_conc : ∀ {l : List AV} {cs : List (Nat × Nat)}, capsOf l = some cs → l.map (AV.conc E) = cs.map (fun p => Value.pointer (some ⟨E.blk p.1, p.2, none⟩)) ∧
    ((∀ x ∈ l, x.ref ≤ n) → cs.foldr (fun p n => max (p.1 + 1) n) 0 ≤ n)
  | [], cs, h => by simp only [capsOf, Option.some.injEq] at h; subst h; exact ⟨rfl, by simp⟩
  | x :: r, cs, h => by
    unfold capsOf at h
    split at h
    · rename_i heq; cases heq
    · rename_i l o r' heq
      cases heq
      obtain ⟨cs', hc, rfl⟩ := Option.map_eq_some_iff.1 h
      obtain ⟨h1, h2⟩ := capsOf_conc hc
      refine ⟨by simp [h1, AV.conc, EV.conc, SV.conc], fun hr => ?_⟩
      have h3 := h2 fun x hx => hr x (List.mem_cons_of_mem _ hx)
      have h4 := hr _ (List.mem_cons_self ..)
      simp only [AV.ref, EV.ref, SV.ref] at h4
      simp only [List.foldr_cons]
      omega
    · cases h

theorem ok_s {x : SV} : (AV.e (.s x)).ok E ↔ x.ok E := by
  constructor
  · intro h; exact h x (by simp [AV.svs, EV.svs])
  · intro h y hy; simp only [AV.svs, EV.svs, List.mem_singleton] at hy; subst hy; exact h

theorem ok_agg {cs : List SV} : (AV.e (.agg cs)).ok E ↔ ∀ x ∈ cs, x.ok E := Iff.rfl

theorem add_lit (b o m : Nat) : (⟨b, o, none⟩ : Addr).add m = ⟨b, o + m, none⟩ := by unfold Addr.add; split <;> simp_all

theorem bound_run (k : IntKind) (i : Int) (y : Nat) (code : BoundsCode) (h0 : 0 ≤ i) (h1 : i ≤ y) (w : World) : (Instr.sliceBound (.int k i) y code).run P w = .ok i.toNat w := by
  simp [Instr.sliceBound, asIntOf, h0, h1]

theorem gives_slice {t e : TypeId} (ht : P.underlying t = some (.slice e)) {l k i m z : Nat} {lo hi : Int} {v : AV} (h : (sliceA l k i m z lo hi).gives v) (vlo vhi : Option Value)
    (h1 : vlo = none ∧ lo = 0 ∨ ∃ k, vlo = some (.int k lo)) (h2 : vhi = none ∧ hi = m ∨ ∃ k, vhi = some (.int k hi)) (hs : sizeOfT P e = some k) (hok : (SV.sl l k i m z).ok E) (w : World) :
    (Instr.sliceAt t ((SV.sl l k i m z).conc E) vlo vhi none).run P w = .ok (v.conc E) w ∧ v.ref = l + 1 ∧ v.ok E := by
  simp only [sliceA, R.gives] at h
  obtain ⟨⟨ha, hb, hc⟩, rfl⟩ := h
  obtain ⟨hn1, hn2⟩ := hok
  refine ⟨?_, rfl, ok_s.2 ⟨fun hn => by have := hn1 hn; omega, fun hn => by have := hn2 hn; omega⟩⟩
  have hcap : E.nil l = false → m ≤ E.cap l - i := fun hn => by have := hn2 hn; omega
  simp only [Instr.sliceAt, Sem.run_bind, run_underlying ht, Result.andThen_ok, Instr.slice, AV.conc, EV.conc, SV.conc]
  cases hnil : E.nil l with
  | true =>
    have hm := hn1 hnil
    subst hm
    have hlo : lo = 0 := by omega
    have hhi : hi = 0 := by omega
    subst hlo hhi
    rcases h1 with ⟨rfl, _⟩ | ⟨k1, rfl⟩ <;> rcases h2 with ⟨rfl, _⟩ | ⟨k2, rfl⟩ <;>
      simp [Instr.sliceBounds, Instr.sliceBound, asIntOf, run_sizeOf hs]
  | false =>
    have hcm := hcap hnil
    have hbound : i + m ≤ E.cap l := hn2 hnil
    have key : ∀ (x y : Nat), x = lo.toNat → y = hi.toNat →
        (if E.cap l - i = x then (⟨E.blk l, E.base l + (if i = E.cap l then z else i) * k, none⟩ : Addr) else (⟨E.blk l, E.base l + (if i = E.cap l then z else i) * k, none⟩ : Addr).add (x * k)) =
          ⟨E.blk l, E.base l + (if i + lo.toNat = E.cap l then (if lo = 0 then z else i) else i + lo.toNat) * k, none⟩ := by
      rintro x y rfl rfl
      by_cases hz : lo = 0
      · subst hz
        simp only [Int.toNat_zero, Nat.add_zero, if_true, Nat.zero_mul, add_lit]
        by_cases hi0 : i = E.cap l
        · simp [hi0]
        · simp [hi0]
      · have hlt : 0 < lo.toNat := by omega
        have hine : i ≠ E.cap l := by omega
        simp only [if_neg hz, if_neg hine, add_lit]
        by_cases he : E.cap l - i = lo.toNat
        · rw [if_pos he, if_pos (by omega)]
        · rw [if_neg he, if_neg (by omega), Nat.add_mul, Nat.add_assoc]
    have hlo2 : lo ≤ ((E.cap l - i : Nat) : Int) := by omega
    have hhi2 : hi ≤ ((E.cap l - i : Nat) : Int) := by omega
    have e3 : E.cap l - i - lo.toNat = E.cap l - (i + lo.toNat) := by omega
    have hb1 : ∀ (v : Value) (k1 : IntKind) (c : BoundsCode), v = .int k1 lo → (Instr.sliceBound v hi.toNat c).run P w = .ok lo.toNat w := fun v k1 c hv => by subst hv; exact bound_run k1 lo _ c ha (by omega) w
    have hb2 : ∀ (k2 : IntKind) (c : BoundsCode), (Instr.sliceBound (.int k2 hi) (E.cap l - i) c).run P w = .ok hi.toNat w := fun k2 c => bound_run k2 hi _ c (by omega) (by omega) w
    rcases h2 with ⟨rfl, he⟩ | ⟨k2, rfl⟩
    · have e2 : hi.toNat = m := by omega
      rcases h1 with ⟨rfl, rfl⟩ | ⟨k1, rfl⟩
      · have kk := key 0 m rfl (by omega)
        simp only [Int.toNat_zero, Nat.zero_mul, Nat.add_zero] at kk
        simp [Instr.sliceBounds, run_sizeOf hs, e2, add_lit]
      · have kk := key lo.toNat m rfl (by omega)
        simp [Instr.sliceBounds, run_sizeOf hs, hb1 _ k1 _ rfl, ← e2, ← e3]
        rw [← kk]; split <;> rfl
    · rcases h1 with ⟨rfl, rfl⟩ | ⟨k1, rfl⟩
      · have kk := key 0 hi.toNat rfl rfl
        simp [Instr.sliceBounds, run_sizeOf hs, hb2]
        simp [add_lit]
      · have kk := key lo.toNat hi.toNat rfl rfl
        simp [Instr.sliceBounds, run_sizeOf hs, hb2, hb1 _ k1 _ rfl, ← e3]
        rw [← kk]; split <;> rfl

theorem gives_max {gt : Bool} {x y v : AV} (h : (maxA gt x y).gives v) (w : World) : ((if gt then Builtin.max2 else Builtin.min2) (x.conc E) (y.conc E)).run P w = .ok (v.conc E) w ∧ v.ref = 0 ∧ v.ok E := by
  unfold maxA at h
  split at h <;> first | (cases h; done) | skip
  all_goals
    simp only [R.gives] at h
    subst h
    refine ⟨?_, rfl, ok_s.2 trivial⟩
    cases gt <;> simp [AV.conc, EV.conc, SV.conc, Builtin.max2, Builtin.min2]

theorem ok_of_int {v : AV} (h : v.ref = 0) (hs : ∃ x, v = .e (.s x)) : v.ok E := by
  obtain ⟨x, rfl⟩ := hs
  cases x <;> simp only [AV.ref, EV.ref, SV.ref] at h <;> first | omega | exact ok_s.2 trivial

theorem binA_s {op : BinOp} {t : TypeId} {x y v : AV} (h : (binA P op t x y).gives v) : ∃ x, v = .e (.s x) := by
  have i2 : ∀ {st k k' a b}, (int2 op st k k' a b).gives v → ∃ x, v = .e (.s x) := by
    intro st k k' a b h
    unfold int2 at h
    split at h
    · split at h
      · split at h <;> (simp only [R.gives] at h; first | exact ⟨_, h.symm⟩ | exact ⟨_, h⟩)
      · unfold intOp at h
        split at h <;> simp only [R.gives] at h
        · exact ⟨_, h.symm⟩
        · exact ⟨_, h.symm⟩
        · exact ⟨_, h.symm⟩
        · exact ⟨_, h.2.symm⟩
        · exact ⟨_, h.2.symm⟩
    · cases h
  have ite_s : ∀ {c : Prop} [Decidable c] {r : R}, (if c then r else .bad).gives v → r.gives v := by
    intro c _ r h
    split at h
    · exact h
    · cases h
  have i3 : ∀ {neg}, (eqOp P t neg x y).gives v → ∃ x, v = .e (.s x) := by
    intro neg h
    unfold eqOp at h
    split at h
    · exact ⟨_, (ite_s h).symm⟩
    · exact ⟨_, (ite_s h).symm⟩
    · exact ⟨_, (ite_s h).symm⟩
    · have h := ite_s h
      split at h
      · exact ⟨_, h⟩
      · cases h
    · cases h
  unfold binA at h
  split at h
  · exact i2 h
  · exact i2 h
  · exact i2 h
  · exact i2 h
  · split at h
    · exact i3 h
    · exact i3 h
    · cases h

theorem ok_take {cs : List SV} (h : ∀ x ∈ cs, x.ok E) (a b : Nat) : (AV.e (.agg ((cs.drop a).take b))).ok E :=
  fun x hx => h x (List.mem_of_mem_drop (List.mem_of_mem_take hx))

theorem ref_take {cs : List SV} (h : refs cs ≤ n) (a b : Nat) : (AV.e (.agg ((cs.drop a).take b))).ref ≤ n := by
  show refs _ ≤ n
  rw [refs_le] at *
  exact fun x hx => h x (List.mem_of_mem_drop (List.mem_of_mem_take hx))

theorem conc_take (cs : List SV) (a b : Nat) : ((cs.map (SV.conc E)).toArray.extract a (a + b)) = (((cs.drop a).take b).map (SV.conc E)).toArray := by
  simp [List.extract_eq_take_drop, List.map_take, List.map_drop]

theorem fillA_ok (place : Nat → Option (Nat × Nat)) : ∀ (parts : List (Nat × AV)) (cells cs : List SV), fillA place cells parts = some cs → (∀ x ∈ cells, x.ok E) → (∀ x ∈ parts, x.2.ok E) → ∀ x ∈ cs, x.ok E
  | [], cells, cs, h, hc, _ => by
    simp only [fillA, Option.some.injEq] at h
    subst h
    exact hc
  | (i, v) :: rest, cells, cs, h, hc, hp => by
    simp only [fillA] at h
    cases hpl : place i with
    | none => simp [hpl] at h
    | some os =>
      obtain ⟨off, size⟩ := os
      cases hv : v.cells with
      | none => simp [hpl, hv] at h
      | some ds =>
        simp only [hpl, hv] at h
        split at h
        · refine fillA_ok place rest _ cs h ?_ fun x hx => hp x (List.mem_cons_of_mem _ hx)
          have hd : ∀ x ∈ ds, x.ok E := by
            have h1 := hp (i, v) (by simp)
            cases v with
            | tup vs => simp [AV.cells] at hv
            | e y => cases y with
              | s z =>
                simp only [AV.cells] at hv
                split at hv
                · simp only [Option.some.injEq] at hv
                  subst hv
                  intro x hx
                  simp only [List.mem_singleton] at hx
                  subst hx
                  exact ok_s.1 h1
                · cases hv
              | agg es =>
                simp only [AV.cells, Option.some.injEq] at hv
                subst hv
                exact h1
          intro x hx
          rcases List.mem_append.1 hx with hx | hx
          · rcases List.mem_append.1 hx with hx | hx
            · exact hc x (List.mem_of_mem_take hx)
            · exact hd x hx
          · exact hc x (List.mem_of_mem_drop hx)
        · cases h

theorem zeroOf_ok {t : TypeId} {z : List SV} (h : zeroOf P t = some z) : ∀ x ∈ z, x.ok E := by
  simp only [zeroOf, Option.map_eq_some_iff] at h
  obtain ⟨v, _, rfl⟩ := h
  intro x hx
  obtain ⟨y, _, rfl⟩ := List.mem_map.1 hx
  trivial

theorem lohi {fr : List AV} {a : Act} (hf : FRep E n fr a) (y : Operand) {j : Int} (h : asInt (opnd fr y) = some j) : ∃ k, a.eval y = .int k j := by
  rw [hf.eval]; exact asInt_conc h

set_option maxHeartbeats 1000000 in
theorem pure_gives (hf : FRep E n fr a) (o : Oper) (v : AV) (h : (pureA P fr o.op).gives v) : Gives P E a o v ∧ v.ref ≤ n ∧ v.ok E := by
  obtain ⟨dst, op, ty, pos, after, guard⟩ := o
  cases op <;> simp only [pureA] at h <;> try (cases h; done)
  case move x => subst h; exact ⟨fun w => by simp [execOp, hf.eval], hf.opnd_ref x, hf.opnd_ok x⟩
  case assign x => subst h; exact ⟨fun w => by simp [execOp, hf.eval], hf.opnd_ref x, hf.opnd_ok x⟩
  case pick c x y =>
    split at h
    · rename_i t ht
      simp only [R.gives] at h
      subst h
      refine ⟨fun w => ?_, by split <;> exact hf.opnd_ref _, by split <;> exact hf.opnd_ok _⟩
      simp only [execOp, hf.eval, ht]
      cases t <;> simp [AV.conc, EV.conc, SV.conc, asBool]
    · cases h
  case build t parts =>
    split at h
    · rename_i fs z hu hz
      split at h
      · rename_i ps hps
        split at h
        · rename_i cs hcs
          simp only [R.gives] at h
          subst h
          refine ⟨fun w => ?_, fillA_ref _ _ _ _ hcs (Nat.le_trans (zeroOf_ref hz) (Nat.zero_le _)) (fun x hx => ?_), fillA_ok _ _ _ _ hcs (zeroOf_ok hz) (fun x hx => ?_)⟩
          · obtain ⟨zv, hzv, hzc, _⟩ := run_zeroValue hz E w
            have hm := run_places fs.toList ps hps w
            obtain ⟨out, ho, hout⟩ := fill_conc (E := E) (ps[·]?) _ z cs zv.cells hcs hzc
            simp only [bind_pure_comp] at hm
            have e1 : (parts.map fun (i, x) => (i, a.eval x)).toList = (parts.toList.map fun (i, x) => (i, opnd fr x)).map fun (i, v) => (i, v.conc E) := by
              simp [hf.eval]
            have e2 : out = (cs.map (SV.conc E)).toArray := by rw [← hout]
            simp only [execOp, Instr.build, Sem.run_bind, hzv, Result.andThen_ok, run_underlying hu]
            rw [Array.mapM_eq_mapM_toList]
            simp only [bind_pure_comp, Sem.run_map, hm, Result.andThen_ok]
            rw [e1]
            simp only [List.getElem?_toArray]
            rw [ho]
            simp [e2, AV.conc, EV.conc]
          · obtain ⟨y, hy, rfl⟩ := List.mem_map.1 hx
            exact hf.opnd_ref _
          · obtain ⟨y, hy, rfl⟩ := List.mem_map.1 hx
            exact hf.opnd_ok _
        · cases h
      · cases h
    · cases h
  case nilCheck x =>
    split at h
    · rename_i l o hx
      simp only [R.gives] at h
      subst h
      refine ⟨fun w => ?_, by rw [← hx]; exact hf.opnd_ref x, by rw [← hx]; exact hf.opnd_ok x⟩
      simp [execOp, hf.eval, hx, AV.conc, EV.conc, SV.conc]
    · rename_i l k i o hx
      simp only [R.gives] at h
      subst h
      refine ⟨fun w => ?_, by rw [← hx]; exact hf.opnd_ref x, by rw [← hx]; exact hf.opnd_ok x⟩
      simp [execOp, hf.eval, hx, AV.conc, EV.conc, SV.conc]
    · cases h
  case binOp op t x y yt =>
    obtain ⟨h1, h2⟩ := gives_binA (E := E) h x y
    refine ⟨fun w => ?_, by omega, ok_of_int h2 (binA_s h)⟩
    have := h1 w
    simp only [execOp, hf.eval]
    simp only [Sem.run_bind] at this ⊢
    rw [this]
    simp
  case unOp op t x =>
    cases op <;> simp only [] at h <;> try (cases h; done)
    split at h
    · rename_i b hx
      simp only [R.gives] at h
      subst h
      exact ⟨fun w => by simp [execOp, hf.eval, hx, AV.conc, EV.conc, SV.conc, Op.unary], Nat.zero_le _, ok_s.2 trivial⟩
    · cases h
  case convert src dst x =>
    split at h
    · rename_i k0 k m h1 h2 hx
      simp only [R.gives] at h
      subst h
      exact ⟨fun w => by simp [execOp, hf.eval, hx, AV.conc, EV.conc, SV.conc, convert, run_underlying h1, run_underlying h2, Conv.intToInt], Nat.zero_le _, ok_s.2 trivial⟩
    · rename_i k0 k m h1 h2 hx
      simp only [R.gives] at h
      subst h
      exact ⟨fun w => by simp [execOp, hf.eval, hx, AV.conc, EV.conc, SV.conc, convert, run_underlying h1, run_underlying h2, Conv.intToInt], Nat.zero_le _, ok_s.2 trivial⟩
    · cases h
  case makeFunc fn first captured =>
    cases fn <;> simp only [] at h <;> try (cases h; done)
    rename_i g
    split at h
    · rename_i cs h1 h2
      simp only [R.gives] at h
      subst h
      obtain ⟨h3, h4⟩ := capsOf_conc (E := E) (n := n) h2
      have h5 := h4 fun x hx => by
        obtain ⟨y, hy, rfl⟩ := List.mem_map.1 hx
        exact hf.opnd_ref y
      have e1 : first = #[] := by rw [← Array.toList_inj]; exact h1
      have e2 : captured.map a.eval = (cs.map fun p => Value.pointer (some ⟨E.blk p.1, p.2, none⟩)).toArray := by
        rw [← h3, ← Array.toList_inj]
        simp [hf.eval]
      exact ⟨fun w => by simp [execOp, Instr.makeFunc, e1, e2, AV.conc, EV.conc, SV.conc], h5, ok_s.2 trivial⟩
    · cases h
  case slice t x lo hi mx =>
    cases mx <;> simp only [] at h <;> try (cases h; done)
    split at h
    · rename_i e l k i m z h1 hx
      split at h
      · rename_i hs
        have ht := run_elemT h1
        have hr := hf.opnd_ref x
        have ho := hf.opnd_ok x
        rw [hx] at hr ho
        have fin : ∀ (lo' hi' : Int) (vlo vhi : Option Value), (sliceA l k i m z lo' hi').gives v → lo.map a.eval = vlo → hi.map a.eval = vhi →
            (vlo = none ∧ lo' = 0 ∨ ∃ k, vlo = some (.int k lo')) → (vhi = none ∧ hi' = m ∨ ∃ k, vhi = some (.int k hi')) →
            Gives P E a { dst := dst, op := Op.slice t x lo hi none, type := ty, pos := pos, after := after, guard := guard } v ∧ v.ref ≤ n ∧ v.ok E := by
          intro lo' hi' vlo vhi hg e1 e2 h2 h3
          have key := fun w => gives_slice ht hg vlo vhi h2 h3 hs (ok_s.1 ho) w
          refine ⟨fun w => ?_, ?_, (key default).2.2⟩
          · have := (key w).1
            simp only [execOp, Option.map_none, e1, e2, hf.eval, hx]
            simp only [AV.conc, EV.conc] at this ⊢
            simp only [Sem.run_bind, this, Result.andThen_ok, Sem.run_pure]
          · rw [(key default).2.1]; exact hr
        cases lo with
        | none => cases hi with
          | none => exact fin 0 m none none h rfl rfl (.inl ⟨rfl, rfl⟩) (.inl ⟨rfl, rfl⟩)
          | some yh =>
            simp only [Option.map_none, Option.map_some] at h
            cases hy : asInt (opnd fr yh) with
            | none => simp only [hy] at h; cases h
            | some b =>
              simp only [hy] at h
              obtain ⟨kb, hb⟩ := lohi hf yh hy
              exact fin 0 b none _ h rfl rfl (.inl ⟨rfl, rfl⟩) (.inr ⟨kb, by simp [hb]⟩)
        | some yl =>
          cases hyl : asInt (opnd fr yl) with
          | none => cases hi <;> simp only [Option.map_none, Option.map_some, hyl] at h <;> cases h
          | some c =>
            obtain ⟨kc, hc⟩ := lohi hf yl hyl
            cases hi with
            | none =>
              simp only [Option.map_none, Option.map_some, hyl] at h
              exact fin c m _ none h rfl rfl (.inr ⟨kc, by simp [hc]⟩) (.inl ⟨rfl, rfl⟩)
            | some yh =>
              simp only [Option.map_some, hyl] at h
              cases hy : asInt (opnd fr yh) with
              | none => simp only [hy] at h; cases h
              | some b =>
                simp only [hy] at h
                obtain ⟨kb, hb⟩ := lohi hf yh hy
                exact fin c b _ _ h rfl rfl (.inr ⟨kc, by simp [hc]⟩) (.inr ⟨kb, by simp [hb]⟩)
      · cases h
    · cases h
  case fieldAddr s x f =>
    split at h
    · rename_i off ft l o h1 hx
      simp only [R.gives] at h
      subst h
      have hr := hf.opnd_ref x
      rw [hx] at hr
      exact ⟨fun w => by simp [execOp, hf.eval, hx, AV.conc, EV.conc, SV.conc, run_fieldAt h1], hr, ok_s.2 trivial⟩
    · rename_i off ft l k i o h1 hx
      simp only [R.gives] at h
      subst h
      have hr := hf.opnd_ref x
      rw [hx] at hr
      exact ⟨fun w => by simp [execOp, hf.eval, hx, AV.conc, EV.conc, SV.conc, run_fieldAt h1, Nat.add_assoc], hr, ok_s.2 trivial⟩
    · cases h
  case field s x f =>
    split at h
    · rename_i off ft cs h1 hx
      obtain ⟨fs, y, hu, hfy, rfl, rfl, _⟩ := run_fieldOff h1
      have hr := hf.opnd_ref x
      have ho := hf.opnd_ok x
      rw [hx] at hr ho
      split at h
      · rename_i m ha hs
        split at h
        · simp only [R.gives] at h
          subst h
          refine ⟨fun w => ?_, ref_take hr _ _, ok_take ho _ _⟩
          simp [execOp, hf.eval, hx, AV.conc, EV.conc, Instr.field, run_underlying hu, hfy, asAgg, part, run_isAgg ha, run_sizeOf hs, List.extract_eq_take_drop, List.map_take, List.map_drop]
        · cases h
      · rename_i ha
        split at h
        · rename_i u hu'
          simp only [R.gives] at h
          subst h
          refine ⟨fun w => ?_, refs_le.1 hr u (List.mem_of_getElem? hu'), ok_s.2 (ho u (List.mem_of_getElem? hu'))⟩
          simp [execOp, hf.eval, hx, AV.conc, EV.conc, Instr.field, run_underlying hu, hfy, asAgg, part, run_isAgg ha, hu']
        · cases h
      · cases h
    · cases h
  case indexAddr t x ix =>
    split at h
    · rename_i e l k i m z j h1 hx hj
      split at h
      · rename_i hs
        simp only [R.gives] at h
        obtain ⟨⟨hj0, hj1⟩, rfl⟩ := h
        have ht := run_elemT h1
        obtain ⟨kj, hjc⟩ := lohi hf ix hj
        have hr := hf.opnd_ref x
        have ho := ok_s.1 (hx ▸ hf.opnd_ok x)
        rw [hx] at hr
        refine ⟨fun w => ?_, hr, ok_s.2 trivial⟩
        have hnil : E.nil l = false := by
          cases hn : E.nil l with
          | false => rfl
          | true => have := ho.1 hn; omega
        have hc := ho.2 hnil
        have hne : i ≠ E.cap l := by omega
        simp only [execOp, hf.eval x, hx, hjc, AV.conc, EV.conc, SV.conc, hnil, if_neg hne]
        simp [Instr.indexAt, asIntOf, run_underlying ht, hj0, hj1, run_sizeOf hs, add_lit, Nat.add_mul, Nat.add_assoc]
      · cases h
    · cases h
  case extract x i =>
    split at h
    · rename_i vs hx
      split at h
      · rename_i u hu
        simp only [R.gives] at h
        subst h
        have hr := hf.opnd_ref x
        have ho := hf.opnd_ok x
        rw [hx] at hr ho
        refine ⟨fun w => ?_, tup_ref.1 hr u (List.mem_of_getElem? hu), fun y hy => ho y (List.mem_flatMap.2 ⟨u, List.mem_of_getElem? hu, hy⟩)⟩
        simp [execOp, hf.eval, hx, AV.conc, Instr.extract, hu]
      · cases h
    · cases h
  case call c =>
    obtain ⟨callee, args, argTypes⟩ := c
    cases callee <;> try (cases h; done)
    rename_i b
    have e0 : ∀ {l : List AV}, args.toList.map (opnd fr) = l → args.map a.eval = (l.map (AV.conc E)).toArray := by
      rintro l rfl
      rw [← Array.toList_inj]
      simp [hf.eval]
    cases b <;> simp only [] at h <;> try (cases h; done)
    case len =>
      split at h
      · rename_i l k i m z t h1 h2
        split at h
        · rename_i hs
          obtain ⟨e, he⟩ := Option.isSome_iff_exists.1 hs
          have ht := run_elemT he
          simp only [R.gives] at h
          subst h
          have hmem : (AV.e (.s (.sl l k i m z))) ∈ args.toList.map (opnd fr) := by rw [h1]; simp
          obtain ⟨y, _, hy⟩ := List.mem_map.1 hmem
          have ho := ok_s.1 (hy ▸ hf.opnd_ok y)
          have e1 := e0 h1
          have e2 : argTypes = #[t] := by rw [← Array.toList_inj]; exact h2
          refine ⟨fun w => ?_, Nat.zero_le _, ok_s.2 trivial⟩
          simp only [execOp, resolve, e1, e2]
          cases hn : E.nil l with
          | true =>
            have := ho.1 hn
            simp [invoke, builtin, Builtin.len_, AV.conc, EV.conc, SV.conc, hn, run_underlying ht, goInt, this]
          | false => simp [invoke, builtin, Builtin.len_, AV.conc, EV.conc, SV.conc, hn, run_underlying ht, goInt]
        · cases h
      · rename_i t h1 h2
        split at h
        · rename_i hs
          obtain ⟨e, he⟩ := Option.isSome_iff_exists.1 hs
          have ht := run_elemT he
          simp only [R.gives] at h
          subst h
          have e1 := e0 h1
          have e2 : argTypes = #[t] := by rw [← Array.toList_inj]; exact h2
          refine ⟨fun w => ?_, Nat.zero_le _, ok_s.2 trivial⟩
          simp [execOp, resolve, e1, e2, invoke, builtin, Builtin.len_, AV.conc, EV.conc, SV.conc, run_underlying ht, goInt]
        · cases h
      · cases h
    case max =>
      split at h
      · rename_i x y h1
        have e1 := e0 h1
        have key := fun w => gives_max (P := P) (E := E) h w
        refine ⟨fun w => ?_, by have := (key default).2.1; omega, (key default).2.2⟩
        have := (key w).1
        simp only [if_true] at this
        simp [execOp, resolve, e1, invoke, builtin, Builtin.max_, this]
      · cases h
    case min =>
      split at h
      · rename_i x y h1
        have e1 := e0 h1
        have key := fun w => gives_max (P := P) (E := E) h w
        refine ⟨fun w => ?_, by have := (key default).2.1; omega, (key default).2.2⟩
        have := (key w).1
        simp only [Bool.false_eq_true, if_false] at this
        simp [execOp, resolve, e1, invoke, builtin, Builtin.min_, this]
      · cases h

end
end Go.Proofs.Ythckkoledhjmeaa.Ev

/-
  The abstract evaluator: what a heap stands for; operations that read it.
-/
namespace Go.Proofs.Ythckkoledhjmeaa.Ev
open Go

/-- A row of the call's own. -/
structure RowR (E : Env) (w : World) (l ty k n : Nat) (g : Nat → List Value) : Prop where
  pos : 0 < k
  nil : E.nil l = true → n = 0
  cap : E.nil l = false → n ≤ E.cap l
  mem : E.nil l = false → ∃ vs : Array Value, w.heap[E.blk l]? = some (.cells vs ty (0, 0)) ∧ (0 < E.cap l → E.base l + E.cap l * k ≤ vs.size) ∧ ∀ i, i < n → ∀ j, j < k → vs[E.base l + i * k + j]? = (g i)[j]?
  len : ∀ i, i < n → (g i).length = k
  one : ∀ i, i < n → ∀ v ∈ g i, v.oneCell' = true

/-- A row that is only read. -/
structure RoR (E : Env) (w : World) (l k n : Nat) (g : Nat → List Value) : Prop where
  pos : 0 < k
  nil : E.nil l = true → n = 0
  cap : E.nil l = false → n ≤ E.cap l
  mem : E.nil l = false → E.blk l < w.heap.size ∧ ∀ i, i < n → ∀ j, j < k → w.cell? ⟨E.blk l, E.base l + i * k + j, none⟩ = (g i)[j]?
  len : ∀ i, i < n → (g i).length = k
  one : ∀ i, i < n → ∀ v ∈ g i, v.oneCell' = true

/-- The map's entries are these packets, under their numbers; no two were born at once. -/
structure MapR (es : List Pkt) (ents : Array MapEntry) (clock : Nat) : Prop where
  kv : ents.toList.map (fun e => (e.key, e.val)) = es.map fun p => (Value.int .u64 p.seq, Value.agg p.vals.toArray)
  born : (ents.toList.map (·.born)).Nodup
  young : ∀ e ∈ ents.toList, e.born < clock

def BRep (E : Env) (w : World) (l : Nat) : AB → Prop
  | .cells ty cs => w.heap[E.blk l]? = some (.cells (cs.map (SV.conc E)).toArray ty (0, 0))
  | .row ty k n g => RowR E w l ty k n g
  | .lit ty k ch => RowR E w l ty k ch.length (fun j => ch.getD j [])
  | .ro k n g => RoR E w l k n g
  | .pm es => ∃ ents clock, w.heap[E.blk l]? = some (.map ents clock) ∧ MapR es ents clock
  | .dead => True

def AB.own (nil : Bool) : AB → Bool
  | .cells _ _ => true
  | .row .. => !nil
  | .lit .. => !nil
  | .ro .. => false
  | .pm _ => true
  | .dead => false

def BOk (E : Env) (n : Nat) : AB → Prop
  | .cells _ cs => refs cs ≤ n ∧ ∀ x ∈ cs, x.ok E
  | _ => True

def Im (E : Env) (H : Heap) (b : Nat) : Prop := ∃ (l : Nat) (B : AB), H[l]? = some B ∧ B.own (E.nil l) = true ∧ E.blk l = b

structure HRep (E : Env) (H : Heap) (w : World) : Prop where
  rep : ∀ (l : Nat) (B : AB), H[l]? = some B → BRep E w l B
  ok : ∀ (l : Nat) (B : AB), H[l]? = some B → BOk E H.length B
  inj : ∀ (l l' : Nat) (B B' : AB), H[l]? = some B → H[l']? = some B' → B.own (E.nil l) = true → B'.own (E.nil l') = true → E.blk l = E.blk l' → l = l'
  ro : ∀ (l k n : Nat) (g : Nat → List Value), H[l]? = some (.ro k n g) → E.nil l = false → ¬ Im E H (E.blk l)

section
variable {P : Program} {E : Env} {n : Nat} {fr : List AV} {a : Act} {w : World}

theorem BRep.lt {l : Nat} {B : AB} (h : BRep E w l B) (ho : B.own (E.nil l) = true) : E.blk l < w.heap.size := by
  cases B <;> simp only [AB.own] at ho <;> try (cases ho; done)
  case cells ty cs => exact (Array.getElem?_eq_some_iff.1 h).1
  case row ty k m g => obtain ⟨vs, hv, _⟩ := h.mem (by simpa using ho); exact (Array.getElem?_eq_some_iff.1 hv).1
  case lit ty k ch => obtain ⟨vs, hv, _⟩ := RowR.mem h (by simpa using ho); exact (Array.getElem?_eq_some_iff.1 hv).1
  case pm es => obtain ⟨_, _, hv, _⟩ := h; exact (Array.getElem?_eq_some_iff.1 hv).1

theorem Im.lt {H : Heap} (h : HRep E H w) {b : Nat} (hb : Im E H b) : b < w.heap.size := by
  obtain ⟨l, B, hl, ho, rfl⟩ := hb
  exact (h.rep l B hl).lt ho

theorem RowR.kept {w' : World} {l ty k m : Nat} {g : Nat → List Value} (h : RowR E w l ty k m g) (hw : E.nil l = false → w'.heap[E.blk l]? = w.heap[E.blk l]?) : RowR E w' l ty k m g :=
  ⟨h.pos, h.nil, h.cap, fun hn => by rw [hw hn]; exact h.mem hn, h.len, h.one⟩

theorem RoR.kept {w' : World} {l k m : Nat} {g : Nat → List Value} (h : RoR E w l k m g) (hw : E.nil l = false → w'.heap[E.blk l]? = w.heap[E.blk l]?) : RoR E w' l k m g :=
  ⟨h.pos, h.nil, h.cap, fun hn => by
    obtain ⟨h1, h2⟩ := h.mem hn
    refine ⟨?_, fun i hi j hj => ?_⟩
    · have := hw hn
      rw [Array.getElem?_eq_getElem h1] at this
      exact (Array.getElem?_eq_some_iff.1 this).1
    · rw [← h2 i hi j hj]
      simp only [World.cell?, hw hn], h.len, h.one⟩

/-- What a block holds is told by its memory alone. -/
theorem BRep.kept {w' : World} {l : Nat} {B : AB} (h : BRep E w l B) (hw : B.own (E.nil l) = true ∨ (∃ k m g, B = .ro k m g) ∧ E.nil l = false → w'.heap[E.blk l]? = w.heap[E.blk l]?) : BRep E w' l B := by
  cases B with
  | cells ty cs => simp only [BRep] at h ⊢; rw [hw (.inl rfl)]; exact h
  | row ty k m g => exact RowR.kept h fun hn => hw (.inl (by simp [AB.own, hn]))
  | lit ty k ch => exact RowR.kept h fun hn => hw (.inl (by simp [AB.own, hn]))
  | ro k m g => exact RoR.kept h fun hn => hw (.inr ⟨⟨k, m, g, rfl⟩, hn⟩)
  | pm es => obtain ⟨e, c, h1, h2⟩ := h; exact ⟨e, c, by rw [hw (.inl rfl)]; exact h1, h2⟩
  | dead => trivial

theorem RowR.agree {E' : Env} {l ty k m : Nat} {g : Nat → List Value} (h : RowR E w l ty k m g) (h1 : E'.blk l = E.blk l) (h2 : E'.base l = E.base l) (h3 : E'.cap l = E.cap l) (h4 : E'.nil l = E.nil l) : RowR E' w l ty k m g :=
  ⟨h.pos, by rw [h4]; exact h.nil, by rw [h4, h3]; exact h.cap, by rw [h4, h1, h2, h3]; exact h.mem, h.len, h.one⟩

theorem BRep.agree {E' : Env} {n l : Nat} {B : AB} (hE : Env.Agree n E E') (hl : l < n) (hB : BOk E n B) (h : BRep E w l B) : BRep E' w l B := by
  cases B with
  | cells ty cs => simp only [BRep] at h ⊢; rw [hE.blk l hl, SV.map_agree hE hB.1]; exact h
  | row ty k m g => exact RowR.agree h (hE.blk l hl) (hE.base l hl) (hE.cap l hl) (hE.nil l hl)
  | lit ty k ch => exact RowR.agree h (hE.blk l hl) (hE.base l hl) (hE.cap l hl) (hE.nil l hl)
  | ro k m g =>
    have h1 := hE.blk l hl
    have h2 := hE.base l hl
    have h3 := hE.cap l hl
    have h4 := hE.nil l hl
    exact ⟨h.pos, by rw [h4]; exact h.nil, by rw [h4, h3]; exact h.cap, by rw [h4, h1, h2]; exact h.mem, h.len, h.one⟩
  | pm es => obtain ⟨e, c, h1, h2⟩ := h; exact ⟨e, c, by rw [hE.blk l hl]; exact h1, h2⟩
  | dead => trivial

theorem BOk.agree {E' : Env} {n n' : Nat} {B : AB} (hE : Env.Agree n E E') (hn : n ≤ n') (hB : BOk E n B) : BOk E' n' B := by
  cases B <;> try trivial
  exact ⟨Nat.le_trans hB.1 hn, fun x hx => SV.ok_agree hE (refs_le.1 hB.1 x hx) (hB.2 x hx)⟩

/-! ### Reading -/

theorem run_loadVar_at {t : TypeId} {s : Nat} {cs : List Value} (ha : aggT P t = some true) (hs : sizeOfT P t = some s) (b o : Nat) (hl : cs.length = s) (hc : ∀ j v, cs[j]? = some v → w.cell? ⟨b, o + j, none⟩ = some v) :
    (loadVar t ⟨b, o, none⟩).run P w = .ok (.agg cs.toArray) w := by
  have h1 := run_loadCells_list (P := P) w ⟨b, o, none⟩ cs (fun j v hj => by rw [add_lit]; exact hc j v hj)
  rw [hl] at h1
  simp [loadVar, run_isAgg ha, run_sizeOf hs, h1]

theorem run_loadVar_one {t : TypeId} {v : Value} (ha : aggT P t = some false) (b o : Nat) (hc : w.cell? ⟨b, o, none⟩ = some v) :
    (loadVar t ⟨b, o, none⟩).run P w = .ok v w := by
  simp [loadVar, run_isAgg ha, hc]

theorem row_lt {t : TypeId} {m k i o : Nat} {g : Nat → List Value} {v : AV} (h : (rowLoad P t m g k i o).gives v) : i < m := by
  unfold rowLoad at h
  split at h
  · split at h
    · exact h.1
    · cases h
  · split at h
    · exact h.1
    · cases h
  · cases h

theorem row_run {t : TypeId} {m k i o : Nat} {g : Nat → List Value} {v : AV} (h : (rowLoad P t m g k i o).gives v) (b base : Nat) (hlen : ∀ i, i < m → (g i).length = k)
    (hm : ∀ i, i < m → ∀ j, j < k → w.cell? ⟨b, base + i * k + j, none⟩ = (g i)[j]?) :
    (loadVar t ⟨b, base + i * k + o, none⟩).run P w = .ok (v.conc E) w ∧ v.ref = 0 ∧ v.ok E := by
  unfold rowLoad at h
  split at h
  · rename_i s ha hs
    split at h
    · rename_i hos
      simp only [R.gives] at h
      obtain ⟨hi, rfl⟩ := h
      have hg := hlen i hi
      refine ⟨?_, ?_, ?_⟩
      · have hl := run_loadVar_at (P := P) (w := w) (cs := ((g i).drop o).take s) ha hs b (base + i * k + o) (by rw [List.length_take, List.length_drop]; omega) (fun j u hj => by
          have hj2 : j < s := by
            have := (List.getElem?_eq_some_iff.1 hj).1
            rw [List.length_take] at this; omega
          rw [List.getElem?_take_of_lt hj2, List.getElem?_drop] at hj
          have := hm i hi (o + j) (by omega)
          rw [hj] at this
          rw [← this, Nat.add_assoc (base + i * k)])
        rw [hl]
        simp only [AV.conc, EV.conc, ← List.map_drop, ← List.map_take, List.map_map]
        have hid : (SV.conc E ∘ SV.d) = id := rfl
        rw [hid, List.map_id]
      · show refs _ = 0
        have : refs ((((g i).map SV.d).drop o).take s) ≤ 0 := by
          rw [refs_le]
          intro x hx
          have hx := List.mem_of_mem_drop (List.mem_of_mem_take hx)
          obtain ⟨y, _, rfl⟩ := List.mem_map.1 hx
          exact Nat.le_refl 0
        omega
      · intro x hx
        have hx := List.mem_of_mem_drop (List.mem_of_mem_take hx)
        obtain ⟨y, _, rfl⟩ := List.mem_map.1 hx
        trivial
    · cases h
  · rename_i s ha hs
    split at h
    · rename_i hok
      simp only [R.gives] at h
      obtain ⟨hi, h⟩ := h
      have hg := hlen i hi
      have hcell := hm i hi o hok
      cases hu : (g i)[o]? with
      | none => rw [List.getElem?_eq_none_iff] at hu; omega
      | some u =>
        rw [hu] at hcell
        have hrun := run_loadVar_one (P := P) ha b (base + i * k + o) hcell
        simp only [List.getElem?_map, hu, Option.map_some] at h
        split at h
        · rename_i t' heq
          simp only [Option.some.injEq, SV.d.injEq] at heq
          subst heq
          simp only [R.gives] at h
          subst h
          exact ⟨hrun, rfl, ok_s.2 trivial⟩
        · rename_i u' _ heq
          simp only [Option.some.injEq] at heq
          subst heq
          simp only [R.gives] at h
          subst h
          exact ⟨hrun, rfl, ok_s.2 trivial⟩
        · cases h
    · cases h
  · cases h

theorem load_run {t : TypeId} {x : SV} {l : Nat} {B : AB} {v : AV} (hx : (∃ o, x = .ptr l o) ∨ ∃ k i o, x = .rp l k i o) (h : (loadA P t x B).gives v) (hB : BRep E w l B) (hok : BOk E n B) :
    (Instr.loadAt t (x.conc E)).run P w = .ok (v.conc E) w ∧ v.ref ≤ n ∧ v.ok E := by
  have rowR : ∀ {ty k m l' i o : Nat} {g : Nat → List Value}, RowR E w l' ty k m g → (rowLoad P t m g k i o).gives v → (Instr.loadAt t ((SV.rp l' k i o).conc E)).run P w = .ok (v.conc E) w ∧ v.ref ≤ n ∧ v.ok E := by
    intro ty k m l' i o g hB h
    have hnil : E.nil l' = false := by
      cases hn : E.nil l' with
      | false => rfl
      | true => have := hB.nil hn; have := row_lt h; omega
    obtain ⟨vs, hv, _, hm⟩ := hB.mem hnil
    obtain ⟨h1, h2, h3⟩ := row_run (P := P) (E := E) (w := w) h (E.blk l') (E.base l') hB.len (fun i hi j hj => by rw [← hm i hi j hj]; simp [World.cell?, hv])
    refine ⟨?_, by omega, h3⟩
    simp only [Instr.loadAt, SV.conc, Instr.sureAddr, Sem.run_bind, Sem.run_pure, Result.andThen_ok, h1]
  unfold loadA at h
  split at h
  · rename_i l' o ty cs
    have hl : l' = l := by rcases hx with ⟨_, hx⟩ | ⟨_, _, _, hx⟩ <;> cases hx; rfl
    subst hl
    have hcell : ∀ j u, cs[j]? = some u → w.cell? ⟨E.blk l', j, none⟩ = some (u.conc E) := by
      intro j u hj
      simp only [BRep] at hB
      simp [World.cell?, hB, hj]
    split at h
    · rename_i s ha hs
      split at h
      · rename_i hos
        simp only [R.gives] at h
        subst h
        refine ⟨?_, ref_take hok.1 _ _, ok_take hok.2 _ _⟩
        have hl := run_loadVar_at (P := P) (w := w) (cs := ((cs.drop o).take s).map (SV.conc E)) ha hs (E.blk l') o (by rw [List.length_map, List.length_take, List.length_drop]; omega) (fun j u hj => by
          rw [List.getElem?_map] at hj
          obtain ⟨y, hy, rfl⟩ := Option.map_eq_some_iff.1 hj
          have hj2 : j < s := by
            have := (List.getElem?_eq_some_iff.1 hy).1
            rw [List.length_take] at this; omega
          rw [List.getElem?_take_of_lt hj2, List.getElem?_drop] at hy
          exact hcell _ _ hy)
        simp only [Instr.loadAt, SV.conc, Instr.sureAddr, Sem.run_bind, Sem.run_pure, Result.andThen_ok, hl]
        rfl
      · cases h
    · rename_i s ha hs
      split at h
      · rename_i t' hc
        simp only [R.gives] at h
        subst h
        have hl := run_loadVar_one (P := P) ha (E.blk l') o (hcell _ _ hc)
        refine ⟨?_, Nat.zero_le _, ok_s.2 trivial⟩
        simp only [Instr.loadAt, SV.conc, Instr.sureAddr, Sem.run_bind, Sem.run_pure, Result.andThen_ok, hl]
        rfl
      · rename_i u _ hc
        simp only [R.gives] at h
        subst h
        have hl := run_loadVar_one (P := P) ha (E.blk l') o (hcell _ _ hc)
        refine ⟨?_, refs_le.1 hok.1 u (List.mem_of_getElem? hc), ok_s.2 (hok.2 u (List.mem_of_getElem? hc))⟩
        simp only [Instr.loadAt, SV.conc, Instr.sureAddr, Sem.run_bind, Sem.run_pure, Result.andThen_ok, hl]
        rfl
      · cases h
    · cases h
  · rename_i l' k' i o ty k m g
    have hl : l' = l := by rcases hx with ⟨_, hx⟩ | ⟨_, _, _, hx⟩ <;> cases hx; rfl
    subst hl
    split at h
    · rename_i hk
      subst hk
      exact rowR hB h
    · cases h
  · rename_i l' k' i o k m g
    have hl : l' = l := by rcases hx with ⟨_, hx⟩ | ⟨_, _, _, hx⟩ <;> cases hx; rfl
    subst hl
    split at h
    · rename_i hk
      subst hk
      have hB : RoR E w l' k' m g := hB
      have hnil : E.nil l' = false := by
        cases hn : E.nil l' with
        | false => rfl
        | true => have := hB.nil hn; have := row_lt h; omega
      obtain ⟨_, hm⟩ := hB.mem hnil
      obtain ⟨h1, h2, h3⟩ := row_run (P := P) (E := E) h (E.blk l') (E.base l') hB.len hm
      refine ⟨?_, by omega, h3⟩
      simp only [Instr.loadAt, SV.conc, Instr.sureAddr, Sem.run_bind, Sem.run_pure, Result.andThen_ok, h1]
    · cases h
  · rename_i l' k' i o ty k ch
    have hl : l' = l := by rcases hx with ⟨_, hx⟩ | ⟨_, _, _, hx⟩ <;> cases hx; rfl
    subst hl
    split at h
    · rename_i hk
      subst hk
      exact rowR (g := fun j => ch.getD j []) hB h
    · cases h
  · cases h

theorem read_gives (hf : FRep E n fr a) (o : Oper) {l : Nat} {r : AB → R} {B : AB} {v : AV} (hr : readA P fr o.op = .at l r) (h : (r B).gives v) (hB : BRep E w l B) (hok : BOk E n B) :
    (execOp a.eval o).run P w = .ok (.value (v.conc E)) w ∧ v.ref ≤ n ∧ v.ok E := by
  obtain ⟨dst, op, ty, pos, after, guard⟩ := o
  cases op <;> simp only [readA] at hr <;> try (cases hr; done)
  case load t x =>
    split at hr
    · rename_i l' o' hx
      cases hr
      obtain ⟨h1, h2, h3⟩ := load_run (P := P) (.inl ⟨o', rfl⟩) h hB hok
      refine ⟨?_, h2, h3⟩
      simp only [execOp, hf.eval, hx, AV.conc, EV.conc, Sem.run_bind, h1, Result.andThen_ok, Sem.run_pure]
    · rename_i l' k i o' hx
      cases hr
      obtain ⟨h1, h2, h3⟩ := load_run (P := P) (.inr ⟨k, i, o', rfl⟩) h hB hok
      refine ⟨?_, h2, h3⟩
      simp only [execOp, hf.eval, hx, AV.conc, EV.conc, Sem.run_bind, h1, Result.andThen_ok, Sem.run_pure]
    · cases hr
  case call c =>
    obtain ⟨callee, args, argTypes⟩ := c
    cases callee <;> try (cases hr; done)
    rename_i b
    cases b <;> simp only [] at hr <;> try (cases hr; done)
    split at hr
    · rename_i l' t h1 h2
      split at hr
      · rename_i hp
        cases hr
        cases B <;> simp only [] at h <;> try (cases h; done)
        rename_i es
        simp only [R.gives] at h
        subst h
        obtain ⟨ents, clock, hb, hm⟩ := hB
        have e1 : args.map a.eval = (([AV.e (.s (.mp l))] : List AV).map (AV.conc E)).toArray := by
          rw [← h1, ← Array.toList_inj]
          simp [hf.eval]
        have e2 : argTypes = #[t] := by rw [← Array.toList_inj]; exact h2
        obtain ⟨kt, et, hu⟩ : ∃ kt et, P.underlying t = some (.map kt et) := by
          unfold pktMapT at hp
          cases hu : P.underlying t with
          | none => simp [hu] at hp
          | some d => cases d <;> simp_all
        have hlen : ents.size = es.length := by
          have := congrArg List.length hm.kv
          simpa using this
        have hgo : (getObj (E.blk l)).run P w = .ok (.map ents clock) w := by simp [getObj, Sem.run, hb]
        refine ⟨?_, Nat.zero_le _, ok_s.2 trivial⟩
        simp [execOp, resolve, e1, e2, invoke, builtin, Builtin.len_, AV.conc, EV.conc, SV.conc, run_underlying hu, hgo, goInt, hlen]
      · cases hr
    · cases hr

end
end Go.Proofs.Ythckkoledhjmeaa.Ev

/-
  The abstract evaluator: steps from a heap to a heap; what trees of decisions say.
-/
namespace Go.Proofs.Ythckkoledhjmeaa.Ev
open Go

structure Step (n0 : Nat) (E : Env) (H : Heap) (w : World) (E' : Env) (H' : Heap) (w' : World) : Prop where
  agree : Env.Agree n0 E E'
  len : n0 ≤ H'.length
  rep : HRep E' H' w'
  os : w'.os = w.os
  tape : w'.tape = w.tape
  output : w'.output = w.output
  size : w.heap.size ≤ w'.heap.size
  frame : ∀ b, b < w.heap.size → ¬ Im E H b → w'.heap[b]? = w.heap[b]?
  im : ∀ b, b < w.heap.size → Im E' H' b → Im E H b

theorem Step.refl {n0 : Nat} {E : Env} {H : Heap} {w : World} (h : HRep E H w) (hn : n0 ≤ H.length) : Step n0 E H w E H w :=
  ⟨.refl _ _, hn, h, rfl, rfl, rfl, Nat.le_refl _, fun _ _ _ => rfl, fun _ _ h => h⟩

theorem Step.trans {n0 n1 : Nat} {E E' E'' : Env} {H H' H'' : Heap} {w w' w'' : World} (h : Step n0 E H w E' H' w') (k : Step n1 E' H' w' E'' H'' w'') (hn : n0 ≤ n1) : Step n0 E H w E'' H'' w'' :=
  ⟨h.agree.trans (k.agree.mono hn), Nat.le_trans hn k.len, k.rep, k.os.trans h.os, k.tape.trans h.tape, k.output.trans h.output, Nat.le_trans h.size k.size,
    fun b hb hi => (k.frame b (Nat.lt_of_lt_of_le hb h.size) (fun hi' => hi (h.im b hb hi'))).trans (h.frame b hb hi),
    fun b hb hi => h.im b hb (k.im b (Nat.lt_of_lt_of_le hb h.size) hi)⟩

theorem Step.mono {n0 n1 : Nat} {E E' : Env} {H H' : Heap} {w w' : World} (h : Step n1 E H w E' H' w') (hn : n0 ≤ n1) : Step n0 E H w E' H' w' :=
  ⟨h.agree.mono hn, Nat.le_trans hn h.len, h.rep, h.os, h.tape, h.output, h.size, h.frame, h.im⟩

section
variable {P : Program} {E E' : Env} {H : Heap} {w w' : World}

theorem get_push {H : Heap} {B : AB} {l : Nat} {C : AB} (h : (H ++ [B])[l]? = some C) : (l < H.length ∧ H[l]? = some C) ∨ (l = H.length ∧ B = C) := by
  rcases Nat.lt_trichotomy l H.length with hl | hl | hl
  · rw [List.getElem?_append_left hl] at h; exact .inl ⟨hl, h⟩
  · subst hl; simp at h; exact .inr ⟨rfl, h⟩
  · rw [List.getElem?_eq_none (by simp; omega)] at h; cases h

theorem lt_of_get {H : Heap} {l : Nat} {B : AB} (h : H[l]? = some B) : l < H.length := (List.getElem?_eq_some_iff.1 h).1

theorem ro_lt {l k n : Nat} {g : Nat → List Value} (h : BRep E w l (.ro k n g)) (hn : E.nil l = false) : E.blk l < w.heap.size := (RoR.mem h hn).1

/-- A new block. -/
theorem step_push (h : HRep E H w) {B : AB} (hE : Env.Agree H.length E E') (hblk : B.own (E'.nil H.length) = true → w.heap.size ≤ E'.blk H.length) (hB : BRep E' w' H.length B) (hok : BOk E' (H.length + 1) B)
    (hro : ∀ k n g, B ≠ .ro k n g) (hw : ∀ b, b < w.heap.size → w'.heap[b]? = w.heap[b]?) (hs : w.heap.size ≤ w'.heap.size) (h1 : w'.os = w.os) (h2 : w'.tape = w.tape) (h3 : w'.output = w.output) :
    Step H.length E H w E' (H ++ [B]) w' := by
  have old : ∀ b, b < w.heap.size → Im E' (H ++ [B]) b → Im E H b := by
    rintro b hb ⟨l, C, hl, ho, rfl⟩
    rcases get_push hl with ⟨hlt, hl⟩ | ⟨rfl, rfl⟩
    · exact ⟨l, C, hl, by rw [← hE.nil l hlt]; exact ho, (hE.blk l hlt).symm⟩
    · have := hblk ho; omega
  refine ⟨hE, by simp, ⟨fun l C hl => ?_, fun l C hl => ?_, fun l l' C C' hl hl' ho ho' he => ?_, fun l k n g hl hn hi => ?_⟩, h1, h2, h3, hs, fun b hb _ => hw b hb, old⟩
  · rcases get_push hl with ⟨hlt, hl⟩ | ⟨rfl, rfl⟩
    · have hr := h.rep l C hl
      refine BRep.agree hE hlt (h.ok l C hl) (hr.kept fun hc => ?_)
      rcases hc with ho | ⟨⟨k, m, g, rfl⟩, hn⟩
      · exact hw _ (hr.lt ho)
      · exact hw _ (ro_lt hr hn)
    · exact hB
  · rcases get_push hl with ⟨hlt, hl⟩ | ⟨rfl, rfl⟩
    · exact (h.ok l C hl).agree hE (by simp)
    · simpa using hok
  · rcases get_push hl with ⟨hlt, hl⟩ | ⟨rfl, rfl⟩ <;> rcases get_push hl' with ⟨hlt', hl'⟩ | ⟨rfl, rfl⟩
    · rw [hE.nil l hlt] at ho
      rw [hE.nil l' hlt'] at ho'
      exact h.inj l l' C C' hl hl' ho ho' (by rw [← hE.blk l hlt, ← hE.blk l' hlt', he])
    · rw [hE.nil l hlt] at ho
      have h4 := (h.rep l C hl).lt ho
      have h5 := hblk ho'
      rw [← he, hE.blk l hlt] at h5
      omega
    · rw [hE.nil l' hlt'] at ho'
      have h4 := (h.rep l' C' hl').lt ho'
      have h5 := hblk ho
      rw [he, hE.blk l' hlt'] at h5
      omega
    · rfl
  · rcases get_push hl with ⟨hlt, hl⟩ | ⟨rfl, rfl⟩
    · rw [hE.nil l hlt] at hn
      rw [hE.blk l hlt] at hi
      exact h.ro l k n g hl hn (old _ (ro_lt (h.rep l _ hl) hn) hi)
    · exact hro k n g rfl

theorem get_set {H : Heap} {l l' : Nat} {B C : AB} (h : (H.set l B)[l']? = some C) : (l' ≠ l ∧ H[l']? = some C) ∨ (l' = l ∧ B = C ∧ l < H.length) := by
  rw [List.getElem?_set] at h
  by_cases he : l = l'
  · subst he
    by_cases hl : l < H.length
    · simp [hl] at h; exact .inr ⟨rfl, h, hl⟩
    · simp [hl] at h
  · rw [if_neg he] at h; exact .inl ⟨Ne.symm he, h⟩

/-- A block of the call's own holds something else; or it is gone. -/
theorem step_set (h : HRep E H w) {l : Nat} {B0 B : AB} (hl : H[l]? = some B0) (ho : B0.own (E.nil l) = true) (hB : BRep E w' l B) (hok : BOk E H.length B) (hro : ∀ k n g, B ≠ .ro k n g)
    (hw : ∀ b, b ≠ E.blk l → w'.heap[b]? = w.heap[b]?) (hs : w'.heap.size = w.heap.size) (h1 : w'.os = w.os) (h2 : w'.tape = w.tape) (h3 : w'.output = w.output) :
    Step H.length E H w E (H.set l B) w' := by
  have old : ∀ b, Im E (H.set l B) b → Im E H b := by
    rintro b ⟨l', C, hl', hc, rfl⟩
    rcases get_set hl' with ⟨_, hl'⟩ | ⟨rfl, rfl, _⟩
    · exact ⟨l', C, hl', hc, rfl⟩
    · exact ⟨l', B0, hl, ho, rfl⟩
  have him : Im E H (E.blk l) := ⟨l, B0, hl, ho, rfl⟩
  refine ⟨.refl _ _, by simp, ⟨fun l' C hl' => ?_, fun l' C hl' => ?_, fun l1 l2 C1 C2 hl1 hl2 ho1 ho2 he => ?_, fun l' k n g hl' hn hi => ?_⟩, h1, h2, h3, by omega, fun b hb hi => hw b fun e => hi (e ▸ him), fun b _ => old b⟩
  · rcases get_set hl' with ⟨hne, hl'⟩ | ⟨rfl, rfl, _⟩
    · refine (h.rep l' C hl').kept fun hc => hw _ fun e => ?_
      rcases hc with hc | ⟨⟨k, m, g, rfl⟩, hn⟩
      · exact hne (h.inj l' l C B0 hl' hl hc ho e)
      · exact h.ro l' k m g hl' hn (e ▸ him)
    · exact hB
  · rw [List.length_set]
    rcases get_set hl' with ⟨hne, hl'⟩ | ⟨rfl, rfl, _⟩
    · exact h.ok l' C hl'
    · exact hok
  · rcases get_set hl1 with ⟨hne1, hg1⟩ | ⟨e1, _, _⟩ <;> rcases get_set hl2 with ⟨hne2, hg2⟩ | ⟨e2, _, _⟩
    · exact h.inj l1 l2 C1 C2 hg1 hg2 ho1 ho2 he
    · rw [e2] at he ⊢; exact h.inj l1 l C1 B0 hg1 hl ho1 ho he
    · rw [e1] at he ⊢; exact h.inj l l2 B0 C2 hl hg2 ho ho2 he
    · rw [e1, e2]
  · rcases get_set hl' with ⟨hne, hl'⟩ | ⟨rfl, rfl, _⟩
    · exact h.ro l' k n g hl' hn (old _ hi)
    · exact hro k n g rfl

/-- A row moves on: its block of memory is another abstract block's from here on. -/
theorem step_move (h : HRep E H w) {l : Nat} {B0 B : AB} (hl : H[l]? = some B0) (ho : B0.own (E.nil l) = true) (hE : Env.Agree H.length E E') (hblk : E'.blk H.length = E.blk l) (hB : BRep E' w' H.length B) (hok : BOk E' (H.length + 1) B)
    (hro : ∀ k n g, B ≠ .ro k n g) (hw : ∀ b, b ≠ E.blk l → w'.heap[b]? = w.heap[b]?) (hs : w'.heap.size = w.heap.size) (h1 : w'.os = w.os) (h2 : w'.tape = w.tape) (h3 : w'.output = w.output) :
    Step H.length E H w E' (H.set l .dead ++ [B]) w' := by
  have hlt : l < H.length := lt_of_get hl
  have hlen : (H.set l .dead).length = H.length := by simp
  have get : ∀ {l' : Nat} {C : AB}, (H.set l .dead ++ [B])[l']? = some C → (l' < H.length ∧ l' ≠ l ∧ H[l']? = some C) ∨ (l' = l ∧ C = .dead) ∨ (l' = H.length ∧ B = C) := by
    intro l' C hc
    rcases get_push hc with ⟨h5, h6⟩ | ⟨h5, h6⟩
    · rcases get_set h6 with ⟨h7, h8⟩ | ⟨h7, h8, _⟩
      · exact .inl ⟨by omega, h7, h8⟩
      · exact .inr (.inl ⟨h7, h8.symm⟩)
    · exact .inr (.inr ⟨by omega, h6⟩)
  have him : Im E H (E.blk l) := ⟨l, B0, hl, ho, rfl⟩
  have old : ∀ b, Im E' (H.set l .dead ++ [B]) b → Im E H b := by
    rintro b ⟨l', C, hl', hc, rfl⟩
    rcases get hl' with ⟨h5, _, h6⟩ | ⟨_, rfl⟩ | ⟨rfl, rfl⟩
    · exact ⟨l', C, h6, by rw [← hE.nil l' h5]; exact hc, (hE.blk l' h5).symm⟩
    · cases hc
    · rw [hblk]; exact him
  refine ⟨hE, by simp, ⟨fun l' C hl' => ?_, fun l' C hl' => ?_, fun l1 l2 C1 C2 hl1 hl2 ho1 ho2 he => ?_, fun l' k n g hl' hn hi => ?_⟩, h1, h2, h3, by omega, fun b hb hi => hw b fun e => hi (e ▸ him), fun b _ => old b⟩
  · rcases get hl' with ⟨h5, h7, h6⟩ | ⟨_, rfl⟩ | ⟨rfl, rfl⟩
    · refine BRep.agree hE h5 (h.ok l' C h6) ((h.rep l' C h6).kept fun hc => hw _ fun e => ?_)
      rcases hc with hc | ⟨⟨k, m, g, rfl⟩, hn⟩
      · exact h7 (h.inj l' l C B0 h6 hl hc ho e)
      · exact h.ro l' k m g h6 hn (e ▸ him)
    · trivial
    · exact hB
  · rcases get hl' with ⟨h5, h7, h6⟩ | ⟨_, rfl⟩ | ⟨rfl, rfl⟩
    · exact (h.ok l' C h6).agree hE (by simp)
    · trivial
    · simpa using hok
  · rcases get hl1 with ⟨h5, h7, h6⟩ | ⟨_, rfl⟩ | ⟨rfl, rfl⟩ <;> rcases get hl2 with ⟨g5, g7, g6⟩ | ⟨_, rfl⟩ | ⟨rfl, rfl⟩
    · rw [hE.nil l1 h5] at ho1
      rw [hE.nil l2 g5] at ho2
      exact h.inj l1 l2 C1 C2 h6 g6 ho1 ho2 (by rw [← hE.blk l1 h5, ← hE.blk l2 g5, he])
    · cases ho2
    · rw [hE.nil l1 h5] at ho1
      rw [hblk, hE.blk l1 h5] at he
      exact absurd (h.inj l1 l C1 B0 h6 hl ho1 ho he) h7
    · cases ho1
    · cases ho1
    · cases ho1
    · rw [hE.nil l2 g5] at ho2
      rw [hblk, hE.blk l2 g5] at he
      exact absurd (h.inj l2 l C2 B0 g6 hl ho2 ho he.symm) g7
    · cases ho2
    · rfl
  · rcases get hl' with ⟨h5, h7, h6⟩ | ⟨_, h8⟩ | ⟨rfl, rfl⟩
    · rw [hE.nil l' h5] at hn
      rw [hE.blk l' h5] at hi
      exact h.ro l' k n g h6 hn (old _ hi)
    · cases h8
    · exact hro k n g rfl

end

/-! ### What trees say -/

def CallsA (P : Program) (f : Nat) (args : List AV) (H : Heap) (Q : AV → Heap → Prop) : Prop :=
  ∀ (E : Env) (w : World), HRep E H w → (∀ x ∈ args, x.ref ≤ H.length ∧ x.ok E) →
    Calls P f (args.map (AV.conc E)).toArray w fun e w' => ∃ (r : AV) (H' : Heap) (E' : Env), e = .returned (r.conc E') ∧ Step H.length E H w E' H' w' ∧ r.ref ≤ H'.length ∧ r.ok E' ∧ Q r H'

def CodeA (P : Program) (n0 : Nat) (c : Code) (σ : St) (Q : Exit → St → Prop) : Prop :=
  ∀ (E : Env) (w : World) (a : Act), HRep E σ.H w → FRep E σ.H.length σ.fr a → n0 ≤ σ.H.length →
    c.wp P (fun e a' w' => ∃ (σ' : St) (E' : Env), Step n0 E σ.H w E' σ'.H w' ∧ FRep E' σ'.H.length σ'.fr a' ∧ Q e σ') a w

def T.sat {α : Type} (P : Program) : T α → (α → Prop) → Prop
  | .ret a, Q => Q a
  | .ite b t e, Q => (b = true → t.sat P Q) ∧ (b = false → e.sat P Q)
  | .need p t, Q => p ∧ t.sat P Q
  | .both t e, Q => t.sat P Q ∧ e.sat P Q
  | .call f args H k, Q => CallsA P f args H fun r H' => (k r H').sat P Q
  | .code n0 c σ k, Q => CodeA P n0 c σ fun e σ' => (k e σ').sat P Q
  | .fail, _ => False

theorem CallsA.mono {P : Program} {f : Nat} {args : List AV} {H : Heap} {Q Q' : AV → Heap → Prop} (h : CallsA P f args H Q) (hq : ∀ r H', Q r H' → Q' r H') : CallsA P f args H Q' :=
  fun E w hr ha => (h E w hr ha).mono fun _ _ ⟨r, H', E', h1, h2, h3, h4, h5⟩ => ⟨r, H', E', h1, h2, h3, h4, hq _ _ h5⟩

theorem CodeA.mono {P : Program} {n0 : Nat} {c : Code} {σ : St} {Q Q' : Exit → St → Prop} (h : CodeA P n0 c σ Q) (hq : ∀ e σ', Q e σ' → Q' e σ') : CodeA P n0 c σ Q' :=
  fun E w a hr hf hn => wp_mono (h E w a hr hf hn) fun _ _ _ ⟨σ', E', h1, h2, h3⟩ => ⟨σ', E', h1, h2, hq _ _ h3⟩

theorem T.sat_mono {α : Type} {P : Program} {Q Q' : α → Prop} (hq : ∀ a, Q a → Q' a) : ∀ {t : T α}, t.sat P Q → t.sat P Q'
  | .ret _, h => hq _ h
  | .ite _ _ _, h => ⟨fun hb => T.sat_mono hq (h.1 hb), fun hb => T.sat_mono hq (h.2 hb)⟩
  | .need _ _, h => ⟨h.1, T.sat_mono hq h.2⟩
  | .both _ _, h => ⟨T.sat_mono hq h.1, T.sat_mono hq h.2⟩
  | .call _ _ _ _, h => CallsA.mono h fun _ _ h => T.sat_mono hq h
  | .code _ _ _ _, h => CodeA.mono h fun _ _ h => T.sat_mono hq h
  | .fail, h => h.elim

theorem T.sat_bind {α β : Type} {P : Program} {Q : β → Prop} {k : α → T β} : ∀ {t : T α}, (t.bind k).sat P Q → t.sat P fun a => (k a).sat P Q
  | .ret _, h => h
  | .ite _ _ _, h => ⟨fun hb => T.sat_bind (h.1 hb), fun hb => T.sat_bind (h.2 hb)⟩
  | .need _ _, h => ⟨h.1, T.sat_bind h.2⟩
  | .both _ _, h => ⟨T.sat_bind h.1, T.sat_bind h.2⟩
  | .call _ _ _ _, h => CallsA.mono h fun _ _ h => T.sat_bind h
  | .code _ _ _ _, h => CodeA.mono h fun _ _ h => T.sat_bind h
  | .fail, h => h.elim

theorem R.sat_then {α : Type} {P : Program} {Q : α → Prop} {k : AV → T α} : ∀ {r : R}, (r.then k).sat P Q → ∃ v, r.gives v ∧ (k v).sat P Q
  | .v x, h => ⟨x, rfl, h⟩
  | .b true, h => ⟨_, rfl, h.1 rfl⟩
  | .b false, h => ⟨_, rfl, h.2 rfl⟩
  | .need _ r, h => by obtain ⟨v, h1, h2⟩ := R.sat_then (r := r) h.2; exact ⟨v, ⟨h.1, h1⟩, h2⟩
  | .bad, h => h.elim

end Go.Proofs.Ythckkoledhjmeaa.Ev

/-
  The abstract evaluator: operations that turn memory.
-/
namespace Go.Proofs.Ythckkoledhjmeaa.Ev
open Go

def Env.push (E : Env) (n b base cap : Nat) (nil : Bool) : Env where
  blk l := if l = n then b else E.blk l
  base l := if l = n then base else E.base l
  cap l := if l = n then cap else E.cap l
  nil l := if l = n then nil else E.nil l

theorem Env.push_agree (E : Env) (n b base cap : Nat) (nil : Bool) : Env.Agree n E (E.push n b base cap nil) :=
  ⟨fun l hl => if_neg (by omega), fun l hl => if_neg (by omega), fun l hl => if_neg (by omega), fun l hl => if_neg (by omega)⟩

section
variable (E : Env) (n b base cap : Nat) (nil : Bool)
@[simp] theorem Env.push_blk : (E.push n b base cap nil).blk n = b := if_pos rfl
@[simp] theorem Env.push_base : (E.push n b base cap nil).base n = base := if_pos rfl
@[simp] theorem Env.push_cap : (E.push n b base cap nil).cap n = cap := if_pos rfl
@[simp] theorem Env.push_nil : (E.push n b base cap nil).nil n = nil := if_pos rfl
end

/-! ### Rows told one behind the other -/

def flatG (g : Nat → List Value) (i n : Nat) : List Value := (List.range n).flatMap fun j => g (i + j)

theorem flatG_succ (g : Nat → List Value) (i n : Nat) : flatG g i (n + 1) = flatG g i n ++ g (i + n) := by
  simp [flatG, List.range_succ]

theorem flatG_length (g : Nat → List Value) (i k : Nat) : ∀ n, (∀ j, j < n → (g (i + j)).length = k) → (flatG g i n).length = n * k
  | 0, _ => by simp [flatG]
  | n + 1, h => by
    rw [flatG_succ, List.length_append, flatG_length g i k n (fun j hj => h j (by omega)), h n (by omega), Nat.add_mul, Nat.one_mul]

theorem flatG_get (g : Nat → List Value) (i k : Nat) : ∀ n, (∀ j, j < n → (g (i + j)).length = k) → ∀ j r, j < n → r < k → (flatG g i n)[j * k + r]? = (g (i + j))[r]?
  | 0, _, j, r, hj, _ => by omega
  | n + 1, h, j, r, hj, hr => by
    have hl := flatG_length g i k n (fun j hj => h j (by omega))
    rw [flatG_succ]
    by_cases hjn : j < n
    · have : (j + 1) * k ≤ n * k := Nat.mul_le_mul_right k hjn
      rw [Nat.add_mul, Nat.one_mul] at this
      rw [List.getElem?_append_left (by omega), flatG_get g i k n (fun j hj => h j (by omega)) j r hjn hr]
    · have : j = n := by omega
      subst this
      rw [List.getElem?_append_right (by omega), hl]
      congr 1
      omega

theorem flatG_one (g : Nat → List Value) (i : Nat) : ∀ n, (∀ j, j < n → ∀ v ∈ g (i + j), v.oneCell' = true) → ∀ v ∈ flatG g i n, v.oneCell' = true := by
  intro n h v hv
  simp only [flatG, List.mem_flatMap, List.mem_range] at hv
  obtain ⟨j, hj, hv⟩ := hv
  exact h j hj v hv

/-- What lies at a place in a flat row. -/
theorem flat_cell {g : Nat → List Value} {i n k : Nat} (h : ∀ j, j < n → (g (i + j)).length = k) {x : Nat} {v : Value} (hx : (flatG g i n)[x]? = some v) : ∃ j r, j < n ∧ r < k ∧ x = j * k + r ∧ (g (i + j))[r]? = some v := by
  have hl := flatG_length g i k n h
  have hlt : x < n * k := by rw [← hl]; exact (List.getElem?_eq_some_iff.1 hx).1
  have hk : 0 < k := by
    rcases Nat.eq_zero_or_pos k with h0 | h0
    · subst h0; simp at hlt
    · exact h0
  have h1 : x = x / k * k + x % k := by rw [Nat.mul_comm]; exact (Nat.div_add_mod x k).symm
  have h2 : x / k < n := (Nat.div_lt_iff_lt_mul hk).2 hlt
  have h3 : x % k < k := Nat.mod_lt _ hk
  refine ⟨x / k, x % k, h2, h3, h1, ?_⟩
  rw [← flatG_get g i k n h _ _ h2 h3, ← h1]
  exact hx

section
variable {P : Program} {E : Env} {H : Heap} {fr : List AV} {a : Act} {w : World}

/-- A step that an operation does. -/
def EffOk (P : Program) (E : Env) (H : Heap) (w : World) (a : Act) (o : Oper) (Q : AV × Heap → Prop) : Prop :=
  ∃ (nx : Next) (v : AV) (H' : Heap) (E' : Env) (w' : World), (execOp a.eval o).run P w = .ok nx w' ∧ (nx = .value (v.conc E') ∨ (nx = .skip ∧ v = undefA)) ∧
    Step H.length E H w E' H' w' ∧ v.ref ≤ H'.length ∧ v.ok E' ∧ Q (v, H')

theorem undef_ref : undefA.ref = 0 := rfl
theorem undef_ok : undefA.ok E := by intro x hx; simp [AV.svs] at hx

theorem alloc_step (h : HRep E H w) (t : Nat) (cs : List SV) (hr : refs cs ≤ H.length) (ho : ∀ x ∈ cs, x.ok E) (out : Array Value) (hout : out.toList = cs.map (SV.conc E)) :
    Step H.length E H w (E.push H.length w.heap.size 0 0 false) (H ++ [.cells t cs]) (w.alloc (.cells out t)) := by
  have hE := Env.push_agree E H.length w.heap.size 0 0 false
  refine step_push h hE (fun _ => by simp) ?_ ⟨by omega, fun x hx => SV.ok_agree hE (refs_le.1 hr x hx) (ho x hx)⟩ (fun _ _ _ => by simp) (fun b hb => heap_alloc_old w _ hb) (by simp) rfl rfl rfl
  simp only [BRep, Env.push_blk, heap_alloc_new]
  rw [SV.map_agree hE hr, ← hout]

theorem cells_ok {v : AV} {cs : List SV} (hv : v.cells = some cs) (h1 : v.ok E) : ∀ x ∈ cs, x.ok E := by
  cases v with
  | tup vs => simp [AV.cells] at hv
  | e y => cases y with
    | s z =>
      simp only [AV.cells] at hv
      split at hv
      · simp only [Option.some.injEq] at hv
        subst hv
        intro x hx
        simp only [List.mem_singleton] at hx
        subst hx
        exact ok_s.1 h1
      · cases hv
    | agg es =>
      simp only [AV.cells, Option.some.injEq] at hv
      subst hv
      exact h1

theorem vals_conc : ∀ {cs : List SV} {vs : List Value}, vals cs = some vs → vs = cs.map (SV.conc E) ∧ ∀ v ∈ vs, v.oneCell' = true
  | [], vs, h => by simp only [vals, Option.some.injEq] at h; subst h; simp
  | x :: xs, vs, h => by
    simp only [vals] at h
    cases hx : x.val with
    | none => simp [hx] at h
    | some v => cases hxs : vals xs with
      | none => simp [hx, hxs] at h
      | some us =>
        simp only [hx, hxs, Option.some.injEq] at h
        subst h
        obtain ⟨h1, h2⟩ := vals_conc hxs
        have h3 : v = x.conc E ∧ v.oneCell' = true := by
          cases x <;> simp only [SV.val] at hx <;> try (cases hx; done)
          all_goals
            split at hx
            · simp only [Option.some.injEq] at hx; subst hx; exact ⟨rfl, by assumption⟩
            · cases hx
        refine ⟨by rw [List.map_cons, ← h3.1, ← h1], ?_⟩
        simp only [List.mem_cons, forall_eq_or_imp]
        exact ⟨h3.2, h2⟩

theorem store_step (h : HRep E H w) {l ty : Nat} {ds cs : List SV} {o : Nat} (hl : H[l]? = some (.cells ty ds)) (hr : refs cs ≤ H.length) (ho : ∀ x ∈ cs, x.ok E) (_ : o + cs.length ≤ ds.length) :
    Step H.length E H w E (H.set l (.cells ty (ds.take o ++ cs ++ ds.drop (o + cs.length)))) (w.setRow (E.blk l) ((ds.map (SV.conc E)).take o ++ cs.map (SV.conc E) ++ (ds.map (SV.conc E)).drop (o + cs.length)).toArray) := by
  have hrep := h.rep l _ hl
  have hok := h.ok l _ hl
  refine step_set h hl rfl ?_ ⟨?_, ?_⟩ (fun _ _ _ => by simp) (fun b hb => setRow_other w _ _ _ hb) (by simp) rfl rfl rfl
  · simp only [BRep] at hrep ⊢
    rw [setRow_heap w _ _ _ _ _ hrep]
    simp [List.map_take, List.map_drop]
  · rw [refs_le] at *
    intro x hx
    rcases List.mem_append.1 hx with hx | hx
    · rcases List.mem_append.1 hx with hx | hx
      · exact refs_le.1 hok.1 x (List.mem_of_mem_take hx)
      · exact hr x hx
    · exact refs_le.1 hok.1 x (List.mem_of_mem_drop hx)
  · intro x hx
    rcases List.mem_append.1 hx with hx | hx
    · rcases List.mem_append.1 hx with hx | hx
      · exact hok.2 x (List.mem_of_mem_take hx)
      · exact ho x hx
    · exact hok.2 x (List.mem_of_mem_drop hx)

end
end Go.Proofs.Ythckkoledhjmeaa.Ev

/-
  The abstract evaluator: every operation that turns memory.
-/
namespace Go.Proofs.Ythckkoledhjmeaa.Ev
open Go

section
variable {P : Program} {E : Env} {H : Heap} {fr : List AV} {a : Act} {w : World}

/-! ### Rows -/

theorem rep_get {n : Nat} {z : List SV} : ∀ (m x : Nat), x < m * z.length → (List.replicate m z).flatten[x]? = z[x % z.length]?
  | 0, x, h => by omega
  | m + 1, x, h => by
    rw [List.replicate_succ, List.flatten_cons]
    by_cases hx : x < z.length
    · rw [List.getElem?_append_left hx, Nat.mod_eq_of_lt hx]
    · rw [List.getElem?_append_right (by omega), rep_get (n := n) m (x - z.length) (by rw [Nat.add_mul] at h; omega)]
      congr 1
      rw [Nat.mod_eq_sub_mod (by omega : z.length ≤ x)]

theorem chunks_len (k : Nat) : ∀ (n : Nat) (vs : List Value), (chunksOf k n vs).length = n
  | 0, _ => rfl
  | n + 1, vs => by simp [chunksOf, chunks_len k n]

theorem chunks_get (k : Nat) : ∀ (n : Nat) (vs : List Value) (i : Nat), i < n → (chunksOf k n vs).getD i [] = (vs.drop (i * k)).take k
  | 0, _, i, h => by omega
  | n + 1, vs, 0, _ => by simp [chunksOf]
  | n + 1, vs, i + 1, h => by
    have := chunks_get k n (vs.drop k) i (by omega)
    simp only [chunksOf, List.getD_cons_succ, this, List.drop_drop]
    rw [Nat.add_mul, Nat.one_mul, Nat.add_comm]

theorem lit_row (t k n : Nat) (vs : List Value) (hk : 0 < k) (hl : vs.length = n * k) (h1 : ∀ v ∈ vs, v.oneCell' = true) (E : Env) (w : World) (l : Nat) :
    RowR (E.push l w.heap.size 0 n false) (w.alloc (.cells vs.toArray t)) l t k (chunksOf k n vs).length (fun j => (chunksOf k n vs).getD j []) := by
  rw [chunks_len]
  refine ⟨hk, fun h => by simp at h, fun _ => by simp, fun _ => ⟨vs.toArray, by simp only [Env.push_blk, heap_alloc_new], by simp [hl], fun i hi j hj => ?_⟩, fun i hi => ?_, fun i hi v hv => ?_⟩
  · rw [chunks_get k n vs i hi, List.getElem?_take_of_lt hj, List.getElem?_drop]
    simp
  · rw [chunks_get k n vs i hi, List.length_take, List.length_drop, hl]
    have : (i + 1) * k ≤ n * k := Nat.mul_le_mul_right k hi
    rw [Nat.add_mul, Nat.one_mul] at this
    omega
  · rw [chunks_get k n vs i hi] at hv
    exact h1 v (List.mem_of_mem_drop (List.mem_of_mem_take hv))

theorem splice_row {l ty k n i o : Nat} {g : Nat → List Value} {vs : List Value} (h : RowR E w l ty k n g) (hi : i < n) (hb : o + vs.length ≤ k) (h1 : ∀ v ∈ vs, v.oneCell' = true) (hnil : E.nil l = false) :
    ∃ cur : Array Value, w.heap[E.blk l]? = some (.cells cur ty (0, 0)) ∧ E.base l + i * k + o + vs.length ≤ cur.size ∧
      RowR E (w.setRow (E.blk l) (cur.toList.take (E.base l + i * k + o) ++ vs ++ cur.toList.drop (E.base l + i * k + o + vs.length)).toArray) l ty k n (spliceG g i o vs) := by
  obtain ⟨cur, hv, hs, hm⟩ := h.mem hnil
  have hcap := h.cap hnil
  have hs := hs (by omega)
  have hik : (i + 1) * k ≤ E.cap l * k := Nat.mul_le_mul_right k (by omega)
  rw [Nat.add_mul, Nat.one_mul] at hik
  refine ⟨cur, hv, by omega, h.pos, h.nil, h.cap, fun _ => ⟨_, setRow_heap w _ _ _ _ _ hv, ?_, fun i' hi' j hj => ?_⟩, fun i' hi' => ?_, fun i' hi' v hvm => ?_⟩
  · intro _
    simp only [List.size_toArray, List.length_append, List.length_take, List.length_drop, Array.length_toList]
    omega
  · have hgl := h.len i hi
    have hi'k : (i' + 1) * k ≤ E.cap l * k := Nat.mul_le_mul_right k (by omega)
    rw [Nat.add_mul, Nat.one_mul] at hi'k
    have hold := hm i' hi' j hj
    have hin : E.base l + i' * k + j < cur.size := by omega
    simp only [List.getElem?_toArray, spliceG]
    by_cases he : i' = i
    · subst he
      rw [if_pos rfl]
      simp only [List.getElem?_append, List.length_append, List.length_take, Array.length_toList, List.getElem?_take, List.getElem?_drop, Array.getElem?_toList]
      by_cases c1 : j < o
      · have e1 : E.base l + i' * k + j < min (E.base l + i' * k + o) cur.size := by omega
        have e2 : j < min o (g i').length := by omega
        rw [if_pos (by omega), if_pos e1, if_pos (by omega), if_pos (by omega), if_pos e2, if_pos c1]
        exact hold
      · by_cases c2 : j < o + vs.length
        · rw [if_pos (by omega), if_neg (by omega), if_pos (by omega), if_neg (by omega)]
          congr 1
          omega
        · rw [if_neg (by omega), if_neg (by omega)]
          rw [← (show cur[E.base l + i' * k + j]? = cur[E.base l + i' * k + o + vs.length + (E.base l + i' * k + j - (min (E.base l + i' * k + o) cur.size + vs.length))]? from by congr 1; omega)]
          rw [hold]
          congr 1
          omega
    · rw [if_neg he, ← hold]
      simp only [List.getElem?_append, List.length_append, List.length_take, Array.length_toList, List.getElem?_take, List.getElem?_drop, Array.getElem?_toList]
      rcases Nat.lt_or_gt_of_ne he with hlt | hgt
      · have : (i' + 1) * k ≤ i * k := Nat.mul_le_mul_right k hlt
        rw [Nat.add_mul, Nat.one_mul] at this
        rw [if_pos (by omega), if_pos (by omega), if_pos (by omega)]
      · have : (i + 1) * k ≤ i' * k := Nat.mul_le_mul_right k hgt
        rw [Nat.add_mul, Nat.one_mul] at this
        rw [if_neg (by omega)]
        congr 1
        omega
  · simp only [spliceG]
    split
    · rename_i he
      subst he
      have := h.len i' hi'
      simp only [List.length_append, List.length_take, List.length_drop]
      omega
    · exact h.len i' hi'
  · simp only [spliceG] at hvm
    split at hvm
    · rename_i he
      subst he
      rcases List.mem_append.1 hvm with hvm | hvm
      · rcases List.mem_append.1 hvm with hvm | hvm
        · exact h.one i' hi' v (List.mem_of_mem_take hvm)
        · exact h1 v hvm
      · exact h.one i' hi' v (List.mem_of_mem_drop hvm)
    · exact h.one i' hi' v hvm

/-! ### Allocations and stores -/

theorem eff_alloc (h : HRep E H w) (_ : FRep E H.length fr a) {o : Oper} {t : TypeId} (hop : o.op = .alloc t) {Q : AV × Heap → Prop} (hq : (effA P fr H o.op).sat P Q) : EffOk P E H w a o Q := by
  rw [hop] at hq
  simp only [effA] at hq
  split at hq
  · rename_i z hz
    split at hq
    · rename_i h1
      obtain ⟨v, hv, hc, _⟩ := run_zeroValue hz E w
      refine ⟨_, .e (.s (.ptr H.length 0)), _, _, _, ?_, .inl rfl, alloc_step h t z (Nat.le_trans (zeroOf_ref hz) (Nat.zero_le _)) (zeroOf_ok hz) v.cells hc, by simp [AV.ref, EV.ref, SV.ref], ok_s.2 trivial, hq⟩
      simp [execOp, hop, Instr.alloc, hv, newVar, newRow, AV.conc, EV.conc, SV.conc]
    · cases hq
  · cases hq

theorem eff_box (h : HRep E H w) (hf : FRep E H.length fr a) {o : Oper} {t : TypeId} {x : Operand} (hop : o.op = .box t x) {Q : AV × Heap → Prop} (hq : (effA P fr H o.op).sat P Q) : EffOk P E H w a o Q := by
  rw [hop] at hq
  simp only [effA] at hq
  split at hq
  · rename_i cs hcs
    split at hq
    · rename_i h1
      have hc := cells_conc (E := E) hcs
      refine ⟨_, .e (.s (.ptr H.length 0)), _, _, _, ?_, .inl rfl, alloc_step h t cs (cells_ref hcs (hf.opnd_ref x)) (cells_ok hcs (hf.opnd_ok x)) _ hc, by simp [AV.ref, EV.ref, SV.ref], ok_s.2 trivial, hq⟩
      simp [execOp, hop, Instr.box, newVar, newRow, AV.conc, EV.conc, SV.conc, hf.eval]
    · cases hq
  · cases hq

theorem run_storeAt {t : TypeId} {s : Nat} (hs : sizeOfT P t = some s) {v : Value} {b o ty : Nat} {cur : Array Value} (hb : w.heap[b]? = some (.cells cur ty (0, 0))) (hl : v.cells.toList.length = s) (hin : o + s ≤ cur.size) (h1 : ∀ x ∈ v.cells.toList, x.oneCell' = true) :
    (Instr.storeAt t (.pointer (some ⟨b, o, none⟩)) v).run P w = .ok () (w.setRow b (cur.toList.take o ++ v.cells.toList ++ cur.toList.drop (o + s)).toArray) := by
  have h2 := run_storeCells_at P b o ty v.cells.toList 0 cur w hb (by omega) h1
  simp only [Nat.add_zero, hl] at h2
  have hl' : v.cells.size = s := by rw [← hl]; simp
  simp [Instr.storeAt, Instr.sureAddr, storeVar, run_sizeOf hs, hl', h2]

theorem eff_store (h : HRep E H w) (hf : FRep E H.length fr a) {o : Oper} {t : TypeId} {x y : Operand} (hop : o.op = .store t x y) {Q : AV × Heap → Prop} (hq : (effA P fr H o.op).sat P Q) : EffOk P E H w a o Q := by
  rw [hop] at hq
  simp only [effA] at hq
  split at hq
  · rename_i l of cs s hx hcs hs
    split at hq
    · rename_i ty ds hl
      split at hq
      · rename_i hc
        obtain ⟨c1, c2, c3⟩ := hc
        have hcc := cells_conc (E := E) hcs
        have hst := store_step h hl (o := of) (cells_ref hcs (hf.opnd_ref y)) (cells_ok hcs (hf.opnd_ok y)) (by omega)
        have hrep := h.rep l _ hl
        have hrun := run_storeAt (P := P) (w := w) hs (v := (opnd fr y).conc E) (b := E.blk l) (o := of) hrep (by rw [hcc]; simp [c1]) (by simp; omega) (by
          rw [hcc]
          intro x hx
          obtain ⟨z, hz, rfl⟩ := List.mem_map.1 hx
          exact one_conc (List.all_eq_true.1 c3 z hz))
        rw [c1] at hst
        refine ⟨.skip, _, _, E, _, ?_, .inr ⟨rfl, rfl⟩, hst, Nat.zero_le _, undef_ok, hq⟩
        have e1 : (opnd fr x).conc E = .pointer (some ⟨E.blk l, of, none⟩) := by rw [hx]; rfl
        rw [hcc] at hrun
        simp only [execOp, hop, hf.eval, e1, Sem.run_bind, hrun, Result.andThen_ok, Sem.run_pure]
      · cases hq
    · cases hq
  · rename_i l k' i of cs s hx hcs hs
    split at hq
    · rename_i ty k n g vs hl hvs
      split at hq
      · rename_i hc
        obtain ⟨rfl, c1, c2⟩ := hc
        obtain ⟨hi, hq⟩ := hq
        obtain ⟨hv1, hv2⟩ := vals_conc (E := E) hvs
        have hcc := cells_conc (E := E) hcs
        have hrow : RowR E w l ty k' n g := h.rep l _ hl
        have hnil : E.nil l = false := by
          cases hn : E.nil l with
          | false => rfl
          | true => have := hrow.nil hn; omega
        obtain ⟨cur, hcur, hin, hnew⟩ := splice_row (o := of) (vs := vs) hrow hi (by omega) hv2 hnil
        have hst := step_set (w' := w.setRow (E.blk l) (cur.toList.take (E.base l + i * k' + of) ++ vs ++ cur.toList.drop (E.base l + i * k' + of + vs.length)).toArray) h hl (by simp [AB.own, hnil]) (B := .row ty k' n (spliceG g i of vs)) hnew trivial (fun _ _ _ => by simp) (fun b hb => setRow_other w _ _ _ hb) (by simp) rfl rfl rfl
        have hrun := run_storeAt (P := P) (w := w) hs (v := (opnd fr y).conc E) (b := E.blk l) (o := E.base l + i * k' + of) hcur (by rw [hcc, ← hv1]; exact c1) (by omega) (by rw [hcc, ← hv1]; exact hv2)
        refine ⟨.skip, _, _, E, _, ?_, .inr ⟨rfl, rfl⟩, hst, Nat.zero_le _, undef_ok, hq⟩
        have e1 : (opnd fr x).conc E = .pointer (some ⟨E.blk l, E.base l + i * k' + of, none⟩) := by rw [hx]; rfl
        rw [hcc, ← hv1] at hrun
        simp only [execOp, hop, hf.eval, e1, Sem.run_bind, hrun, Result.andThen_ok, Sem.run_pure, c1]
      · cases hq
    · cases hq
  · cases hq

end
end Go.Proofs.Ythckkoledhjmeaa.Ev

/-
  The abstract evaluator: slices that are written out; maps of packets.
-/
namespace Go.Proofs.Ythckkoledhjmeaa.Ev
open Go

section
variable {P : Program} {E : Env} {H : Heap} {fr : List AV} {a : Act} {w : World}

theorem fillA_len (place : Nat → Option (Nat × Nat)) : ∀ (parts : List (Nat × AV)) (cells cs : List SV), fillA place cells parts = some cs → cs.length = cells.length
  | [], cells, cs, h => by
    simp only [fillA, Option.some.injEq] at h
    subst h
    rfl
  | (i, v) :: rest, cells, cs, h => by
    simp only [fillA] at h
    cases hpl : place i with
    | none => simp [hpl] at h
    | some os =>
      obtain ⟨off, size⟩ := os
      cases hv : v.cells with
      | none => simp [hpl, hv] at h
      | some ds =>
        simp only [hpl, hv] at h
        split at h
        · rename_i hc
          rw [fillA_len place rest _ cs h]
          simp only [List.length_append, List.length_take, List.length_drop]
          omega
        · cases h

theorem eff_buildSlice (h : HRep E H w) (hf : FRep E H.length fr a) {o : Oper} {t : TypeId} {m : Nat} {parts : Array (Nat × Operand)} (hop : o.op = .buildSlice t m parts) {Q : AV × Heap → Prop} (hq : (effA P fr H o.op).sat P Q) : EffOk P E H w a o Q := by
  rw [hop] at hq
  simp only [effA] at hq
  split at hq
  · rename_i e he
    split at hq
    · rename_i k z hs hz
      split at hq
      · rename_i hc
        obtain ⟨c1, c2⟩ := hc
        split at hq
        · rename_i cs hcs
          split at hq
          · rename_i vs hvs
            obtain ⟨hv1, hv2⟩ := vals_conc (E := E) hvs
            have hlen : cs.length = m * (k + 1) := by
              rw [fillA_len _ _ _ _ hcs]
              simp [c1]
            have hvl : vs.length = m * (k + 1) := by rw [hv1, List.length_map, hlen]
            have hE := Env.push_agree E H.length w.heap.size 0 m false
            have hst := step_push h hE (B := .lit e (k + 1) (chunksOf (k + 1) m vs)) (fun _ => by simp) (lit_row e (k + 1) m vs (by omega) hvl hv2 E w H.length) trivial (fun _ _ _ => by simp) (fun b hb => heap_alloc_old w _ hb) (by simp) rfl rfl rfl
            have hok : (AV.e (.s (.sl H.length (k + 1) 0 m 0))).ok (E.push H.length w.heap.size 0 m false) := ok_s.2 ⟨fun hn => by simp at hn, fun _ => by simp⟩
            refine ⟨_, .e (.s (.sl H.length (k + 1) 0 m 0)), _, _, _, ?_, .inl rfl, hst, by simp [AV.ref, EV.ref, SV.ref], hok, hq⟩
            have ht := run_elemT he
            obtain ⟨zv, hzv, hzc, _⟩ := run_zeroValue hz E w
            have hzs : zv.cells.size = k + 1 := by rw [← Array.length_toList, hzc, List.length_map, c1]
            have hsmall : ¬ (m * (k + 1) > 2 ^ 24) := by omega
            have hcell : ∀ acc : Array Value, acc.toList = ((List.replicate m z).flatten).map (SV.conc E) →
                ∃ out, Instr.fill (fun i => some (i * (k + 1), k + 1)) acc (parts.toList.map fun x => (x.1, a.eval x.2)) = some out ∧ out = vs.toArray := by
              intro acc hacc
              obtain ⟨out, ho, hout⟩ := fill_conc (E := E) _ _ _ cs acc hcs hacc
              refine ⟨out, ?_, by rw [hv1, ← hout, Array.toArray_toList]⟩
              rw [← ho]
              congr 1
              simp [hf.eval]
            simp only [execOp, hop, Instr.buildSlice, Sem.run_bind, run_underlying ht, Result.andThen_ok, run_sizeOf hs, if_neg hsmall, Sem.run_pure]
            by_cases hm : m = 0
            · subst hm
              obtain ⟨out, ho, hout⟩ := hcell #[] (by simp)
              have hr0 : Array.range 0 = #[] := rfl
              simp [ho, hout, hr0, newRow, AV.conc, EV.conc, SV.conc]
            · have hne : ¬ (m * (k + 1) = 0) := by
                intro h0
                rcases Nat.mul_eq_zero.1 h0 with h0 | h0 <;> omega
              obtain ⟨out, ho, hout⟩ := hcell ((Array.range (m * (k + 1))).map (zv.cells[· % zv.cells.size]!)) (by
                apply List.ext_getElem?
                intro x
                by_cases hx : x < m * (k + 1)
                · have hmod : x % (k + 1) < k + 1 := Nat.mod_lt _ (by omega)
                  have e1 : ((List.replicate m z).flatten)[x]? = z[x % z.length]? := rep_get (n := 0) m x (by rw [c1]; exact hx)
                  have e2 : zv.cells[x % (k + 1)]? = (z[x % (k + 1)]?).map (SV.conc E) := by rw [← Array.getElem?_toList, hzc, List.getElem?_map]
                  rw [List.getElem?_map, e1, c1, ← e2]
                  have hlt : x % (k + 1) < zv.cells.size := by omega
                  simp only [hx, hzs, Array.toList_map, Array.toList_range, List.getElem?_map, List.getElem?_range, Option.map_some]
                  rw [getElem!_pos zv.cells (x % (k + 1)) hlt, Array.getElem?_eq_getElem hlt]
                · rw [List.getElem?_eq_none (by simp; omega), List.getElem?_eq_none (by simp [c1]; omega)])
              have epm : (parts.map fun (i, x) => (i, a.eval x)).toList = parts.toList.map fun x => (x.1, a.eval x.2) := by simp
              simp only [if_neg hne, hzv, Result.andThen_ok, Sem.run_bind, Sem.run_pure, epm, ho, hout]
              simp [newRow, AV.conc, EV.conc, SV.conc]
          · cases hq
        · cases hq
      · cases hq
    · cases hq
  · cases hq

theorem map_eraseIdx' {α β : Type} (f : α → β) : ∀ (l : List α) (i : Nat), (l.eraseIdx i).map f = (l.map f).eraseIdx i
  | [], i => by simp
  | x :: l, 0 => by simp
  | x :: l, i + 1 => by simp [map_eraseIdx' f l i]

/-! ### Maps of packets -/

structure PktMap (P : Program) (t : TypeId) : Prop where
  ex : ∃ k e, P.underlying t = some (.map k e) ∧ P.underlying k = some (.int .u64) ∧ ∃ cs, (P.info? e).bind (·.zero) = some (.agg cs) ∧ cs.toList = [.int .u64 0, .int .i64 0, .int .i64 0, .int .i64 0]

theorem pktMap {t : TypeId} (h : pktMapT P t = true) : PktMap P t := by
  unfold pktMapT at h
  cases hu : P.underlying t with
  | none => simp [hu] at h
  | some d =>
    cases d <;> simp only [hu] at h <;> try (cases h; done)
    rename_i k e
    simp only [Bool.and_eq_true] at h
    obtain ⟨h1, h2⟩ := h
    refine ⟨k, e, hu, ?_, ?_⟩
    · cases hk : P.underlying k with
      | none => simp [hk] at h1
      | some d =>
        cases d <;> simp only [hk] at h1 <;> try (cases h1; done)
        rename_i q
        cases q <;> simp at h1
        rfl
    · cases hz : (P.info? e).bind (·.zero) with
      | none => simp [hz] at h2
      | some v =>
        cases v <;> simp only [hz] at h2 <;> try (cases h2; done)
        rename_i cs
        refine ⟨cs, rfl, ?_⟩
        split at h2
        · assumption
        · cases h2

theorem run_checkKey (b : Bool) {k : TypeId} (hk : P.underlying k = some (.int .u64)) (s : Int) : (Instr.checkKey b 10000 k (.int .u64 s)).run P w = .ok () w := by
  have : ∀ d, (Instr.checkKey b (d + 1) k (.int .u64 s)).run P w = .ok () w := by intro d; simp [Instr.checkKey, run_underlying hk]
  exact this 9999

theorem findNow_spec (s : Int) : ∀ (es : List Pkt) (ents : List MapEntry) (i0 : Nat), ents.map (fun e => (e.key, e.val)) = es.map (fun p => (Value.int .u64 p.seq, Value.agg p.vals.toArray)) →
    Instr.findNow (.int .u64) (.int .u64 s) ents i0 = some (match es.findIdx? (fun p => s == p.seq) with
      | some j => some (i0 + j, Value.agg (findP es s).vals.toArray)
      | none => none)
  | [], [], i0, _ => by simp [Instr.findNow]
  | [], _ :: _, i0, h => by simp at h
  | _ :: _, [], i0, h => by simp at h
  | p :: es, e :: ents, i0, h => by
    simp only [List.map_cons, List.cons.injEq, Prod.mk.injEq] at h
    obtain ⟨⟨hk, hv⟩, hr⟩ := h
    have ih := findNow_spec s es ents (i0 + 1) hr
    simp only [Instr.findNow, hk, Instr.sameNow, if_true, List.findIdx?_cons, findP, List.find?_cons]
    cases hb : s == p.seq with
    | true => simp [hv]
    | false =>
      simp only [ih, findP]
      cases es.findIdx? (fun p => s == p.seq) with
      | none => simp
      | some j => simp; omega

theorem run_findKey {k : TypeId} (hk : P.underlying k = some (.int .u64)) (s : Int) {es : List Pkt} {ents : List MapEntry} (h : ents.map (fun e => (e.key, e.val)) = es.map (fun p => (Value.int .u64 p.seq, Value.agg p.vals.toArray))) :
    (Instr.findKey k (.int .u64 s) ents).run P w = .ok (match es.findIdx? (fun p => s == p.seq) with
      | some j => some (j, Value.agg (findP es s).vals.toArray)
      | none => none) w := by
  have := findNow_spec s es ents 0 h
  simp only [Nat.zero_add] at this
  simp [Instr.findKey, run_underlying hk, this]

theorem findIdx_has (es : List Pkt) (s : Int) : (es.findIdx? fun p => s == p.seq).isSome = hasP es s := by
  simp [hasP]

theorem pkt_conc (p : Pkt) : (AV.e (.agg p.cells)).conc E = .agg p.vals.toArray := rfl

theorem getObj_map {r : Nat} {ents : Array MapEntry} {c : Nat} (hb : w.heap[r]? = some (.map ents c)) : (getObj r).run P w = .ok (.map ents c) w := by simp [getObj, Sem.run, hb]

theorem setObj_map {r : Nat} {ents : Array MapEntry} {c : Nat} (hb : w.heap[r]? = some (.map ents c)) (o : Obj) : (setObj r o).run P w = .ok () { w with heap := w.heap.setIfInBounds r o } := by simp [setObj, Sem.run, hb]

theorem setObj_step (h : HRep E H w) {l : Nat} {es es' : List Pkt} (hl : H[l]? = some (.pm es)) {ents : Array MapEntry} {c : Nat} (hm : MapR es' ents c) :
    Step H.length E H w E (H.set l (.pm es')) { w with heap := w.heap.setIfInBounds (E.blk l) (.map ents c) } := by
  have hlt := (h.rep l _ hl).lt rfl
  refine step_set h hl rfl ⟨ents, c, by simp [hlt], hm⟩ trivial (fun _ _ _ => by simp) (fun b hb => ?_) (by simp) rfl rfl rfl
  simp [Ne.symm hb]

theorem eff_makeMap (h : HRep E H w) (_ : FRep E H.length fr a) {o : Oper} {t : TypeId} (hop : o.op = .makeMap t none) {Q : AV × Heap → Prop} (hq : (effA P fr H o.op).sat P Q) : EffOk P E H w a o Q := by
  rw [hop] at hq
  simp only [effA] at hq
  split at hq
  · have hE := Env.push_agree E H.length w.heap.size 0 0 false
    have hst := step_push (w' := w.alloc (.map #[] 0)) h hE (B := .pm []) (fun _ => by simp) ⟨#[], 0, by simp only [Env.push_blk, heap_alloc_new], ⟨rfl, List.nodup_nil, by simp⟩⟩ trivial (fun _ _ _ => by simp) (fun b hb => heap_alloc_old w _ hb) (by simp) rfl rfl rfl
    refine ⟨_, .e (.s (.mp H.length)), _, _, _, ?_, .inl rfl, hst, by simp [AV.ref, EV.ref, SV.ref], ok_s.2 trivial, hq⟩
    simp [execOp, hop, Instr.makeMap, AV.conc, EV.conc, SV.conc]
  · cases hq

theorem eff_lookup (h : HRep E H w) (hf : FRep E H.length fr a) {o : Oper} {t : TypeId} {m key : Operand} (hop : o.op = .lookup t m key true) {Q : AV × Heap → Prop} (hq : (effA P fr H o.op).sat P Q) : EffOk P E H w a o Q := by
  rw [hop] at hq
  simp only [effA] at hq
  split at hq
  · rename_i l s hm hk
    split at hq
    · rename_i es hl
      split at hq
      · rename_i hp
        obtain ⟨k, e, hu, huk, cs, hz, hcs⟩ := (pktMap hp).ex
        obtain ⟨ents, clock, hb, hmr⟩ := h.rep l _ hl
        have hfk := run_findKey (P := P) (w := w) huk s (es := es) (ents := ents.toList) hmr.kv
        have e1 : (opnd fr m).conc E = .map (some (E.blk l)) := by rw [hm]; rfl
        have e2 : (opnd fr key).conc E = .int .u64 s := by rw [hk]; rfl
        have hhas := findIdx_has es s
        have hzero : (zeroValue e).run P w = .ok (.agg Pkt.zero.vals.toArray) w := by
          have : cs = Pkt.zero.vals.toArray := by rw [← Array.toList_inj]; exact hcs
          obtain ⟨i, hi, hiz⟩ := Option.bind_eq_some_iff.1 hz
          simp [zeroValue, typeInfo, hi, hiz, this]
        have hpc : ∀ p : Pkt, ∀ b : Bool, (AV.tup [.agg p.cells, .s (.c (.bool b))]).ref = 0 := fun p b => rfl
        have hpo : ∀ p : Pkt, ∀ b : Bool, (AV.tup [.agg p.cells, .s (.c (.bool b))]).ok E := by
          intro p b x hx
          simp only [AV.svs, EV.svs, Pkt.cells, List.flatMap_cons, List.flatMap_nil, List.append_nil, List.cons_append, List.nil_append, List.mem_cons, List.not_mem_nil, or_false] at hx
          rcases hx with rfl | rfl | rfl | rfl | rfl <;> trivial
        cases hi : es.findIdx? (fun p => s == p.seq) with
        | some j =>
          rw [hi] at hhas hfk
          refine ⟨_, .tup [.agg (findP es s).cells, .s (.c (.bool true))], H, E, w, ?_, .inl rfl, .refl h (Nat.le_refl _), by rw [hpc]; omega, hpo _ _, hq.1 hhas.symm⟩
          simp only [execOp, hop, hf.eval, e1, e2, Instr.lookup, Sem.run_bind, run_underlying hu, Result.andThen_ok, getObj_map hb, run_checkKey _ huk, hfk, Sem.run_pure, if_true]
          rfl
        | none =>
          rw [hi] at hhas hfk
          refine ⟨_, .tup [.agg Pkt.zero.cells, .s (.c (.bool false))], H, E, w, ?_, .inl rfl, .refl h (Nat.le_refl _), by rw [hpc]; omega, hpo _ _, hq.2 hhas.symm⟩
          simp only [execOp, hop, hf.eval, e1, e2, Instr.lookup, Sem.run_bind, run_underlying hu, Result.andThen_ok, getObj_map hb, run_checkKey _ huk, hfk, Sem.run_pure, if_true, hzero]
          rfl
      · cases hq
    · cases hq
  · cases hq

theorem eff_mapUpdate (h : HRep E H w) (hf : FRep E H.length fr a) {o : Oper} {t : TypeId} {m key x : Operand} (hop : o.op = .mapUpdate t m key x) {Q : AV × Heap → Prop} (hq : (effA P fr H o.op).sat P Q) : EffOk P E H w a o Q := by
  rw [hop] at hq
  simp only [effA] at hq
  split at hq
  · rename_i l s cs hm hk hx
    split at hq
    · rename_i es p q r d hl hvs
      split at hq
      · rename_i hp
        obtain ⟨⟨rfl, hnew⟩, hq⟩ := hq
        obtain ⟨k, e, hu, huk, _⟩ := (pktMap hp).ex
        obtain ⟨ents, clock, hb, hmr⟩ := h.rep l _ hl
        have hfk := run_findKey (P := P) (w := w) huk s (es := es) (ents := ents.toList) hmr.kv
        have hhas := findIdx_has es s
        rw [hnew] at hhas
        have hnone : es.findIdx? (fun p => s == p.seq) = none := by simpa using hhas
        rw [hnone] at hfk
        have e1 : (opnd fr m).conc E = .map (some (E.blk l)) := by rw [hm]; rfl
        have e2 : (opnd fr key).conc E = .int .u64 s := by rw [hk]; rfl
        have e3 : (opnd fr x).conc E = .agg (Pkt.mk s q r d).vals.toArray := by
          rw [hx]
          simp only [AV.conc, EV.conc, ← (vals_conc (E := E) hvs).1]
          rfl
        have hmr' : MapR (es ++ [⟨s, q, r, d⟩]) (ents.push { key := .int .u64 s, val := .agg (Pkt.mk s q r d).vals.toArray, born := clock }) (clock + 1) := by
          refine ⟨by simp [hmr.kv], ?_, ?_⟩
          · rw [Array.toList_push, List.map_append, List.nodup_append]
            refine ⟨hmr.born, by simp, ?_⟩
            intro x hx y hy
            simp only [List.map_cons, List.map_nil, List.mem_singleton] at hy
            obtain ⟨z, hz, rfl⟩ := List.mem_map.1 hx
            have := hmr.young z hz
            omega
          · intro x hx
            rw [Array.toList_push, List.mem_append] at hx
            rcases hx with hx | hx
            · have := hmr.young x hx; omega
            · simp only [List.mem_singleton] at hx; subst hx; simp
        refine ⟨.skip, _, _, E, _, ?_, .inr ⟨rfl, rfl⟩, setObj_step h hl hmr', Nat.zero_le _, undef_ok, hq⟩
        simp only [execOp, hop, hf.eval, e1, e2, e3, Instr.mapUpdate, Sem.run_bind, run_underlying hu, Result.andThen_ok, getObj_map hb, run_checkKey _ huk, hfk, setObj_map hb, Sem.run_pure]
      · cases hq
    · cases hq
  · cases hq

theorem eraseP_idx (p : Pkt → Bool) : ∀ es : List Pkt, es.eraseP p = match es.findIdx? p with | some i => es.eraseIdx i | none => es
  | [] => by simp
  | x :: es => by
    rw [List.eraseP_cons, List.findIdx?_cons]
    cases hx : p x with
    | true => simp
    | false =>
      have ih := eraseP_idx p es
      simp only [ih]
      cases es.findIdx? p <;> simp

theorem eff_delete (h : HRep E H w) (hf : FRep E H.length fr a) {o : Oper} {args : Array Operand} {argTypes : Array TypeId} (hop : o.op = .call { callee := .builtin .delete, args, argTypes }) {Q : AV × Heap → Prop} (hq : (effA P fr H o.op).sat P Q) : EffOk P E H w a o Q := by
  rw [hop] at hq
  simp only [effA] at hq
  split at hq
  · rename_i l s t r h1 h2
    split at hq
    · rename_i es hl
      split at hq
      · rename_i hp
        obtain ⟨k, e, hu, huk, _⟩ := (pktMap hp).ex
        obtain ⟨ents, clock, hb, hmr⟩ := h.rep l _ hl
        have hfk := run_findKey (P := P) (w := w) huk s (es := es) (ents := ents.toList) hmr.kv
        have e1 : args.map a.eval = #[.map (some (E.blk l)), .int .u64 s] := by
          have : (args.map a.eval).toList = (args.toList.map (opnd fr)).map (AV.conc E) := by simp [hf.eval]
          rw [← Array.toList_inj, this, h1]
          rfl
        have e2 : argTypes[0]? = some t := by rw [← Array.getElem?_toList, h2]; rfl
        have herase := eraseP_idx (fun p => s == p.seq) es
        cases hi : es.findIdx? (fun p => s == p.seq) with
        | some j =>
          rw [hi] at hfk herase
          have hj : j < es.length := (List.findIdx?_eq_some_iff_getElem.1 hi).1
          have hsz : ents.size = es.length := by have := congrArg List.length hmr.kv; simpa using this
          have hlist : (ents.eraseIdxIfInBounds j).toList = ents.toList.eraseIdx j := by
            simp [Array.eraseIdxIfInBounds, show j < ents.size by omega]
          have hmr' : MapR (delP es s) (ents.eraseIdxIfInBounds j) clock := by
            refine ⟨?_, ?_, fun x hx => hmr.young x ?_⟩
            · rw [hlist, map_eraseIdx', hmr.kv]
              simp only [delP, herase, map_eraseIdx']
            · rw [hlist, map_eraseIdx']
              exact hmr.born.sublist (List.eraseIdx_sublist _ _)
            · rw [hlist] at hx
              exact List.mem_of_mem_eraseIdx hx
          refine ⟨_, .tup [], _, E, _, ?_, .inl rfl, setObj_step h hl hmr', Nat.zero_le _, undef_ok, hq⟩
          simp [execOp, hop, resolve, e1, invoke, builtin, Builtin.delete_, e2, run_underlying hu, getObj_map hb, run_checkKey _ huk, hfk, setObj_map hb, AV.conc]
        | none =>
          rw [hi] at hfk herase
          have hmr' : MapR (delP es s) ents clock := by simp only [delP, herase]; exact hmr
          refine ⟨_, .tup [], _, E, _, ?_, .inl rfl, setObj_step h hl hmr', Nat.zero_le _, undef_ok, hq⟩
          simp [execOp, hop, resolve, e1, invoke, builtin, Builtin.delete_, e2, run_underlying hu, getObj_map hb, run_checkKey _ huk, hfk, setObj_map hb, AV.conc]
      · cases hq
    · cases hq
  · cases hq

end
end Go.Proofs.Ythckkoledhjmeaa.Ev

/-
  The abstract evaluator: append.
-/
namespace Go.Proofs.Ythckkoledhjmeaa.Ev
open Go

section
variable {P : Program} {E : Env} {H : Heap} {fr : List AV} {a : Act} {w : World}

/-- A block that nothing asks for any more. -/
theorem step_dead (h : HRep E H w) (l : Nat) : Step H.length E H w E (H.set l .dead) w := by
  have get : ∀ {l' : Nat} {C : AB}, (H.set l .dead)[l']? = some C → H[l']? = some C ∨ C = .dead := by
    intro l' C hc
    rcases get_set hc with ⟨_, h8⟩ | ⟨_, h8, _⟩
    · exact .inl h8
    · exact .inr h8.symm
  have old : ∀ b, Im E (H.set l .dead) b → Im E H b := by
    rintro b ⟨l', C, hl', hc, rfl⟩
    rcases get hl' with h6 | rfl
    · exact ⟨l', C, h6, hc, rfl⟩
    · cases hc
  refine ⟨.refl _ _, by simp, ⟨fun l' C hl' => ?_, fun l' C hl' => ?_, fun l1 l2 C1 C2 hl1 hl2 ho1 ho2 he => ?_, fun l' k n g hl' hn hi => ?_⟩, rfl, rfl, rfl, Nat.le_refl _, fun _ _ _ => rfl, fun b _ => old b⟩
  · rcases get hl' with h6 | rfl
    · exact h.rep l' C h6
    · trivial
  · rw [List.length_set]
    rcases get hl' with h6 | rfl
    · exact h.ok l' C h6
    · trivial
  · rcases get hl1 with h6 | rfl
    · rcases get hl2 with g6 | rfl
      · exact h.inj l1 l2 C1 C2 h6 g6 ho1 ho2 he
      · cases ho2
    · cases ho1
  · rcases get hl' with h6 | h8
    · exact h.ro l' k n g h6 hn (old _ hi)
    · cases h8

theorem push_row (h : HRep E H w) {t k N cap : Nat} {g : Nat → List Value} {cs : Array Value} (hk : 0 < k) (hc : N ≤ cap) (hs : cs.size = cap * k) (hg : ∀ i, i < N → ∀ j, j < k → cs[i * k + j]? = (g i)[j]?)
    (hl : ∀ i, i < N → (g i).length = k) (h1 : ∀ i, i < N → ∀ v ∈ g i, v.oneCell' = true) :
    Step H.length E H w (E.push H.length w.heap.size 0 cap false) (H ++ [.row t k N g]) (w.drew.alloc (.cells cs t)) := by
  refine step_push h (Env.push_agree E H.length w.heap.size 0 cap false) (fun _ => by simp) ?_ trivial (fun _ _ _ => by simp) (fun b hb => heap_alloc_old w.drew _ hb) (by simp) rfl rfl rfl
  refine RowR.mk hk (fun hn => by simp at hn) (fun _ => by simpa using hc) (fun _ => ⟨cs, ?_, fun _ => by simp [hs], fun i hi j hj => ?_⟩) hl h1
  · simp only [Env.push_blk]; exact heap_alloc_new w.drew _
  · simp only [Env.push_base, Nat.zero_add]; exact hg i hi j hj

theorem push_nil (h : HRep E H w) {t k : Nat} {g : Nat → List Value} (hk : 0 < k) : Step H.length E H w (E.push H.length 0 0 0 true) (H ++ [.row t k 0 g]) w := by
  refine step_push h (Env.push_agree E H.length 0 0 0 true) (fun hn => by simp [AB.own] at hn) ?_ trivial (fun _ _ _ => by simp) (fun b hb => rfl) (by simp) rfl rfl rfl
  exact RowR.mk hk (fun _ => rfl) (fun hn => by simp at hn) (fun hn => by simp at hn) (fun i hi => by omega) (fun i hi => by omega)

/-! ### Rows that are read -/

structure RowsR (E : Env) (w : World) (l k N : Nat) (g : Nat → List Value) : Prop where
  pos : 0 < k
  nil : E.nil l = true → N = 0
  cap : E.nil l = false → N ≤ E.cap l
  mem : E.nil l = false → ∀ i, i < N → ∀ j, j < k → w.cell? ⟨E.blk l, E.base l + i * k + j, none⟩ = (g i)[j]?
  len : ∀ i, i < N → (g i).length = k
  one : ∀ i, i < N → ∀ v ∈ g i, v.oneCell' = true

theorem RowR.rows {l ty k N : Nat} {g : Nat → List Value} (h : RowR E w l ty k N g) : RowsR E w l k N g :=
  ⟨h.pos, h.nil, h.cap, fun hn i hi j hj => by
    obtain ⟨vs, hv, _, hm⟩ := h.mem hn
    rw [← hm i hi j hj]
    simp [World.cell?, hv], h.len, h.one⟩

theorem rowOf_rows (h : HRep E H w) {l k N : Nat} {g : Nat → List Value} (hr : rowOf H l = some (k, N, g)) : RowsR E w l k N g := by
  unfold rowOf at hr
  split at hr
  · rename_i hl; cases hr; exact RowR.rows (h.rep l _ hl)
  · rename_i hl
    cases hr
    have hB : RoR E w l k N g := h.rep l _ hl
    exact ⟨hB.pos, hB.nil, hB.cap, fun hn => (hB.mem hn).2, hB.len, hB.one⟩
  · rename_i ty k' ch hl
    cases hr
    exact RowR.rows (h.rep l _ hl)
  · cases hr

theorem ownRow_row (h : HRep E H w) {l ty k N : Nat} {g : Nat → List Value} (hr : ownRow H l = some (ty, k, N, g)) : RowR E w l ty k N g ∧ ∃ B0, H[l]? = some B0 ∧ B0.own (E.nil l) = !E.nil l := by
  unfold ownRow at hr
  split at hr
  · rename_i hl; cases hr; exact ⟨h.rep l _ hl, _, hl, rfl⟩
  · rename_i ty k' ch hl
    cases hr
    exact ⟨h.rep l _ hl, _, hl, rfl⟩
  · cases hr

/-- A slice's cells. -/
theorem src_cells {l k i n z N : Nat} {g : Nat → List Value} (h : RowsR E w l k N g) (hok : SV.ok E (.sl l k i n z)) (hn : i + n ≤ N) :
    ∃ b c, (SV.sl l k i n z).conc E = .slice b n c ∧ (flatG g i n).length = n * k ∧ (∀ v ∈ flatG g i n, v.oneCell' = true) ∧ (∀ j, j < n → (g (i + j)).length = k) ∧
      (0 < n → E.nil l = false ∧ i < E.cap l ∧ b = some ⟨E.blk l, E.base l + i * k, none⟩ ∧ ∀ j u, (flatG g i n)[j]? = some u → w.cell? ((⟨E.blk l, E.base l + i * k, none⟩ : Addr).add j) = some u) := by
  have hlen : ∀ j, j < n → (g (i + j)).length = k := fun j hj => h.len _ (by omega)
  have h1 := flatG_length g i k n hlen
  have h2 := flatG_one g i n fun j hj => h.one _ (by omega)
  simp only [SV.ok] at hok
  cases hnil : E.nil l with
  | true =>
    have h0 := hok.1 hnil
    exact ⟨none, 0, by simp [SV.conc, hnil, h0], h1, h2, hlen, fun h => by omega⟩
  | false =>
    refine ⟨some ⟨E.blk l, E.base l + (if i = E.cap l then z else i) * k, none⟩, E.cap l - i, by simp only [SV.conc, hnil], h1, h2, hlen, fun h0 => ?_⟩
    have hc := hok.2 hnil
    refine ⟨rfl, by omega, by rw [if_neg (by omega)], fun j u hj => ?_⟩
    obtain ⟨q, r, hq, hr, rfl, hu⟩ := flat_cell hlen hj
    rw [add_lit, ← hu, ← h.mem hnil (i + q) (by omega) r hr]
    congr 2
    rw [Nat.add_mul]
    omega

theorem app_len {g g2 : Nat → List Value} {i n k i2 m : Nat} (h1 : ∀ j, j < n → (g (i + j)).length = k) (h2 : ∀ j, j < m → (g2 (i2 + j)).length = k) {j : Nat} (hj : j < n + m) : (appendG g i n g2 i2 j).length = k := by
  simp only [appendG]
  split
  · exact h1 _ (by omega)
  · exact h2 _ (by omega)

theorem app_one {g g2 : Nat → List Value} {i n i2 m : Nat} (h1 : ∀ j, j < n → ∀ v ∈ g (i + j), v.oneCell' = true) (h2 : ∀ j, j < m → ∀ v ∈ g2 (i2 + j), v.oneCell' = true) {j : Nat} (hj : j < n + m) : ∀ v ∈ appendG g i n g2 i2 j, v.oneCell' = true := by
  simp only [appendG]
  split
  · exact h1 _ (by omega)
  · exact h2 _ (by omega)

theorem app_get {g g2 : Nat → List Value} {i n k i2 m : Nat} (h1 : ∀ j, j < n → (g (i + j)).length = k) (h2 : ∀ j, j < m → (g2 (i2 + j)).length = k) (Z : List Value) {j r : Nat} (hj : j < n + m) (hr : r < k) :
    (flatG g i n ++ flatG g2 i2 m ++ Z)[j * k + r]? = (appendG g i n g2 i2 j)[r]? := by
  have l1 := flatG_length g i k n h1
  have l2 := flatG_length g2 i2 k m h2
  have hb : (j + 1) * k ≤ (n + m) * k := Nat.mul_le_mul_right k hj
  rw [Nat.add_mul, Nat.one_mul, Nat.add_mul] at hb
  rw [List.getElem?_append_left (by rw [List.length_append]; omega)]
  simp only [appendG]
  split
  · rename_i hjn
    have hb2 : (j + 1) * k ≤ n * k := Nat.mul_le_mul_right k hjn
    rw [Nat.add_mul, Nat.one_mul] at hb2
    rw [List.getElem?_append_left (by omega), flatG_get g i k n h1 j r hjn hr]
  · rename_i hjn
    have hb2 : n * k ≤ j * k := Nat.mul_le_mul_right k (by omega)
    rw [List.getElem?_append_right (by omega), l1, show j * k + r - n * k = (j - n) * k + r by rw [Nat.sub_mul]; omega, flatG_get g2 i2 k m h2 (j - n) r (by omega) hr]

/-! ### append -/

structure Fit (P : Program) (e k : Nat) (i : TypeInfo) (z : Value) : Prop where
  info : P.info? e = some i
  size : i.size = k
  bytes : i.bytes ≤ 1000
  zero : i.zero = some z
  cells : z.cells.size = k

theorem fitE_fit {e k : Nat} (h : fitE P e k = true) : ∃ i z, Fit P e k i z := by
  unfold fitE at h
  split at h
  · rename_i i hi
    cases hz : i.zero with
    | none => simp [hz] at h
    | some z =>
      simp only [hz, Bool.and_eq_true, beq_iff_eq, decide_eq_true_eq] at h
      exact ⟨i, z, hi, h.1.1, h.1.2, hz, h.2⟩
  · cases h

theorem run_append_none {t ty e : TypeId} {i : TypeInfo} (ht : P.underlying t = some (.slice e)) (hi : P.info? e = some i) (b : Option Addr) (n c : Nat) (h : n ≤ c) (b2 : Option Addr) (c2 : Nat) :
    (Builtin.append_ #[t, t] ty #[.slice b n c, .slice b2 0 c2]).run P w = .ok (.slice b n c) w := by
  have hf : (Builtin.firstCells i.size 0 (.slice b2 0 c2)).run P w = .ok #[] w := by
    cases b2 with
    | none => rfl
    | some a => exact run_firstCells_some (P := P) w i.size 0 a 0 c2 [] (by simp) (by simp)
  cases b <;> simp [Builtin.append_, run_underlying ht, sizeOf, typeInfo, hi, Builtin.lenOf, hf, h, storeCells]

theorem run_append_in {t ty e ety : TypeId} {i : TypeInfo} (ht : P.underlying t = some (.slice e)) (hi : P.info? e = some i)
    (g off sLen sCap : Nat) (cur : Array Value) (hg : w.heap[g]? = some (.cells cur ety (0, 0)))
    (a : Addr) (m c : Nat) (news : List Value) (hl : news.length = m * i.size) (hnews : ∀ j u, news[j]? = some u → w.cell? (a.add j) = some u) (h1 : ∀ u ∈ news, u.oneCell' = true)
    (hroom : sLen + m ≤ sCap) (hfit : off + sLen * i.size + news.length ≤ cur.size) :
    (Builtin.append_ #[t, t] ty #[.slice (some ⟨g, off, none⟩) sLen sCap, .slice (some a) m c]).run P w =
      .ok (.slice (some ⟨g, off, none⟩) (sLen + m) sCap) (w.setRow g (cur.toList.take (off + sLen * i.size) ++ news ++ cur.toList.drop (off + sLen * i.size + news.length)).toArray) := by
  have hf := run_firstCells_some (P := P) w i.size m a m c news hl hnews
  have hst := run_storeCells_at P g (off + sLen * i.size) ety news 0 cur w hg (by simpa using hfit) h1
  simp only [Nat.add_zero] at hst
  simp [Builtin.append_, run_underlying ht, sizeOf, typeInfo, hi, Builtin.lenOf, hroom, hf, Addr.add_lit, hst]

/-- A slice of cells of the call's own, lengthened. -/
theorem append_own (h : HRep E H w) {l ty k N i n z : Nat} {g : Nat → List Value} (hr : ownRow H l = some (ty, k, N, g)) (hok : SV.ok E (.sl l k i n z)) (hn : i + n ≤ N)
    {l2 N2 i2 m z2 : Nat} {g2 : Nat → List Value} (hr2 : rowOf H l2 = some (k, N2, g2)) (hok2 : SV.ok E (.sl l2 k i2 m z2)) (hm : i2 + m ≤ N2) (hmost : n + m ≤ most)
    {t vt : TypeId} (ht : P.underlying t = some (.slice ty)) {inf : TypeInfo} {zv : Value} (hfit : Fit P ty k inf zv) :
    ∃ E' w', (Builtin.append_ #[t, t] vt #[(SV.sl l k i n z).conc E, (SV.sl l2 k i2 m z2).conc E]).run P w = .ok ((SV.sl H.length k 0 (n + m) 0).conc E') w' ∧
      Step H.length E H w E' (H.set l .dead ++ [.row ty k (n + m) (appendG g i n g2 i2)]) w' ∧ SV.ok E' (.sl H.length k 0 (n + m) 0) := by
  obtain ⟨hrow, B0, hl, hown⟩ := ownRow_row h hr
  have hrows := hrow.rows
  have hrows2 := rowOf_rows h hr2
  obtain ⟨b, c, e1, q1, q2, q3, q4⟩ := src_cells hrows hok hn
  obtain ⟨b2, c2, e2, p1, p2, p3, p4⟩ := src_cells hrows2 hok2 hm
  have hk := hrow.pos
  have hone1 : ∀ j, j < n → ∀ v ∈ g (i + j), v.oneCell' = true := fun j hj => hrow.one _ (by omega)
  have hone2 : ∀ j, j < m → ∀ v ∈ g2 (i2 + j), v.oneCell' = true := fun j hj => hrows2.one _ (by omega)
  have hmx : maxLen = maxLen := rfl
  have hmost' : most = 1000000 := rfl
  have hd := step_dead h l
  have hdl : (H.set l .dead).length = H.length := by simp
  have hbytes : (n + m) * inf.bytes ≤ 140737488355328 := by
    have : (n + m) * inf.bytes ≤ 1000000 * 1000 := Nat.mul_le_mul (by omega) hfit.bytes
    omega
  -- a new row
  have grow : ∀ cap, n + m ≤ cap → Step H.length E H w (E.push H.length w.heap.size 0 cap false) (H.set l .dead ++ [.row ty k (n + m) (appendG g i n g2 i2)]) (w.drew.alloc (.cells ((flatG g i n).toArray ++ (flatG g2 i2 m).toArray ++ Builtin.zeroCells zv.cells (cap - (n + m))) ty)) ∧ SV.ok (E.push H.length w.heap.size 0 cap false) (.sl H.length k 0 (n + m) 0) ∧
      (SV.sl H.length k 0 (n + m) 0).conc (E.push H.length w.heap.size 0 cap false) = .slice (some ⟨w.heap.size, 0, none⟩) (n + m) cap := by
    intro cap hcap
    have hp := push_row (t := ty) (k := k) (N := n + m) (cap := cap) (g := appendG g i n g2 i2) hd.rep (cs := (flatG g i n).toArray ++ (flatG g2 i2 m).toArray ++ Builtin.zeroCells zv.cells (cap - (n + m))) hk hcap (by
        simp only [Array.size_append, List.size_toArray, size_zeroCells, hfit.cells, q1, p1, ← Nat.add_mul]
        congr 1
        omega) (fun i hi j hj => by
          have := app_get q3 p3 (Builtin.zeroCells zv.cells (cap - (n + m))).toList hi hj
          rw [← this, ← Array.getElem?_toList]
          simp) (fun j hj => app_len q3 p3 hj) (fun j hj => app_one hone1 hone2 hj)
    rw [hdl] at hp
    refine ⟨hd.trans hp (Nat.le_refl _), ⟨fun hh => by simp at hh, fun _ => by simpa using hcap⟩, ?_⟩
    simp only [SV.conc, Env.push_nil, Env.push_blk, Env.push_base, Env.push_cap]
    simp only [ite_self, Nat.zero_mul, Nat.add_zero, Nat.sub_zero]
  rw [e1, e2]
  by_cases h0 : m = 0
  · -- nothing to append
    subst h0
    cases hnil : E.nil l with
    | true =>
      have hn0 : n = 0 := hok.1 hnil
      subst hn0
      have hc : b = none ∧ c = 0 := by
        rw [SV.conc, hnil] at e1
        cases e1
        exact ⟨rfl, rfl⟩
      obtain ⟨rfl, rfl⟩ := hc
      have hp := push_nil (t := ty) (k := k) (g := appendG g i 0 g2 i2) hd.rep hk
      rw [hdl] at hp
      refine ⟨E.push H.length 0 0 0 true, w, ?_, hd.trans hp (Nat.le_refl _), ⟨fun _ => rfl, fun hh => by simp at hh⟩⟩
      rw [run_append_none ht hfit.info none 0 0 (Nat.le_refl _)]
      simp [SV.conc]
    | false =>
      have hcap := hok.2 hnil
      obtain ⟨vs, hv, hsz, hmem⟩ := hrow.mem hnil
      have hc : b = some ⟨E.blk l, E.base l + (if i = E.cap l then z else i) * k, none⟩ ∧ c = E.cap l - i := by
        rw [SV.conc, hnil] at e1
        simp only [Value.slice.injEq] at e1
        exact ⟨e1.1.symm, e1.2.2.symm⟩
      obtain ⟨rfl, rfl⟩ := hc
      refine ⟨E.push H.length (E.blk l) (E.base l + (if i = E.cap l then z else i) * k) (E.cap l - i) false, w, ?_, ?_, ⟨fun hh => by simp at hh, fun _ => by simp; omega⟩⟩
      · rw [run_append_none ht hfit.info _ n _ (by omega)]
        simp only [SV.conc, Env.push_nil, Env.push_blk, Env.push_base, Env.push_cap]
        simp only [ite_self, Nat.zero_mul, Nat.add_zero, Nat.sub_zero]
      · refine step_move h hl (by rw [hown, hnil]; rfl) (Env.push_agree _ _ _ _ _ _) (by simp) ?_ trivial (fun _ _ _ => by simp) (fun _ _ => rfl) rfl rfl rfl rfl
        refine RowR.mk hk (fun hh => by simp at hh) (fun _ => by simp; omega) (fun _ => ⟨vs, by simpa using hv, fun h5 => ?_, fun j hj r hr => ?_⟩) (fun j hj => app_len q3 p3 hj) (fun j hj => app_one hone1 hone2 hj)
        · simp only [Env.push_cap, Env.push_base] at h5 ⊢
          have := hsz (by omega)
          rw [if_neg (by omega), Nat.sub_mul]
          have : i * k ≤ E.cap l * k := Nat.mul_le_mul_right k (by omega)
          omega
        · simp only [Env.push_base]
          rw [if_neg (by omega), Nat.add_zero] at *
          have := hmem (i + j) (by omega) r hr
          simp only [appendG, if_pos (show j < n by omega)]
          rw [← this]
          congr 1
          rw [Nat.add_mul]
          omega
  · obtain ⟨hnil2, hi2, rfl, hcell2⟩ := p4 (by omega)
    by_cases hroom : E.nil l = false ∧ n + m ≤ E.cap l - i
    · -- in place
      obtain ⟨hnil, hroom⟩ := hroom
      obtain ⟨vs, hv, hsz, hmem⟩ := hrow.mem hnil
      have hsz := hsz (by omega)
      have hc : b = some ⟨E.blk l, E.base l + i * k, none⟩ ∧ c = E.cap l - i := by
        rw [SV.conc, hnil] at e1
        simp only [Value.slice.injEq] at e1
        rw [if_neg (by omega)] at e1
        exact ⟨e1.1.symm, e1.2.2.symm⟩
      obtain ⟨rfl, rfl⟩ := hc
      have hcapk : (i + (n + m)) * k ≤ E.cap l * k := Nat.mul_le_mul_right k (by omega)
      rw [Nat.add_mul, Nat.add_mul] at hcapk
      have hrun := run_append_in (P := P) (w := w) (ty := vt) ht hfit.info (E.blk l) (E.base l + i * k) n (E.cap l - i) vs hv ⟨E.blk l2, E.base l2 + i2 * k, none⟩ m c2 (flatG g2 i2 m) (by rw [p1, hfit.size]) hcell2 p2 hroom (by rw [hfit.size, p1]; omega)
      rw [hfit.size, p1] at hrun
      refine ⟨E.push H.length (E.blk l) (E.base l + i * k) (E.cap l - i) false, w.setRow (E.blk l) (vs.toList.take (E.base l + i * k + n * k) ++ flatG g2 i2 m ++ vs.toList.drop (E.base l + i * k + n * k + m * k)).toArray, ?_, ?_, ⟨fun hh => by simp at hh, fun _ => by simp; omega⟩⟩
      · rw [hrun]
        simp only [SV.conc, Env.push_nil, Env.push_blk, Env.push_base, Env.push_cap]
        rw [if_neg (by omega)]
        simp
      · refine step_move h hl (by rw [hown, hnil]; rfl) (Env.push_agree _ _ _ _ _ _) (by simp) ?_ trivial (fun _ _ _ => by simp) (fun b hb => setRow_other w _ _ _ hb) (by simp) rfl rfl rfl
        refine RowR.mk hk (fun hh => by simp at hh) (fun _ => by simp; omega) (fun _ => ⟨_, by simpa using setRow_heap w _ _ _ _ _ hv, fun h5 => ?_, fun j hj r hr => ?_⟩) (fun j hj => app_len q3 p3 hj) (fun j hj => app_one hone1 hone2 hj)
        · simp only [Env.push_cap, Env.push_base, List.size_toArray, List.length_append, List.length_take, List.length_drop, Array.length_toList, p1, Nat.sub_mul]
          omega
        · simp only [Env.push_base, List.getElem?_toArray]
          have hjk : (j + 1) * k ≤ (n + m) * k := Nat.mul_le_mul_right k hj
          rw [Nat.add_mul, Nat.one_mul, Nat.add_mul] at hjk
          simp only [appendG]
          split
          · rename_i hjn
            have hjk2 : (j + 1) * k ≤ n * k := Nat.mul_le_mul_right k hjn
            rw [Nat.add_mul, Nat.one_mul] at hjk2
            have := hmem (i + j) (by omega) r hr
            rw [← this, List.getElem?_append_left (by simp; omega), List.getElem?_take_of_lt (by omega), Array.getElem?_toList]
            congr 1
            rw [Nat.add_mul]
            omega
          · rename_i hjn
            have hjk2 : n * k ≤ j * k := Nat.mul_le_mul_right k (by omega)
            have hlt : (vs.toList.take (E.base l + i * k + n * k)).length = E.base l + i * k + n * k := by simp; omega
            rw [List.getElem?_append_right (by omega), hlt, List.getElem?_append_left (by rw [p1]; omega), show E.base l + i * k + j * k + r - (E.base l + i * k + n * k) = (j - n) * k + r by rw [Nat.sub_mul]; omega, flatG_get g2 i2 k m p3 (j - n) r (by omega) hr]
    · -- a new row
      have hcn : c < n + m := by
        rw [SV.conc] at e1
        cases hnil : E.nil l with
        | true => rw [hnil] at e1; simp only [Value.slice.injEq] at e1; omega
        | false =>
          rw [hnil] at e1
          simp only [Value.slice.injEq] at e1
          have : ¬ (n + m ≤ E.cap l - i) := fun h5 => hroom ⟨hnil, h5⟩
          omega
      have hge := grownCap_ge w (n + m) c ty
      by_cases hn0 : n = 0
      · subst hn0
        have hb : (b = none ∧ c = 0) ∨ ∃ a, b = some a := by
          rw [SV.conc] at e1
          cases hnil : E.nil l with
          | true => rw [hnil] at e1; simp only [Value.slice.injEq] at e1; exact .inl ⟨e1.1.symm, e1.2.2.symm⟩
          | false => rw [hnil] at e1; simp only [Value.slice.injEq] at e1; exact .inr ⟨_, e1.1.symm⟩
        rcases hb with ⟨rfl, rfl⟩ | ⟨ab, rfl⟩
        · have hrun := run_append_nil (P := P) w t vt ty inf zv ht hfit.info hfit.zero ⟨E.blk l2, E.base l2 + i2 * k, none⟩ m c2 (flatG g2 i2 m) (by rw [p1, hfit.size]) hcell2 (by omega) (by omega) (by
            have := hbytes
            simp only [Nat.zero_add] at this
            omega)
          obtain ⟨g1, g2', g3⟩ := grow (grownCap w m 0 ty) (by simpa using hge)
          refine ⟨_, _, ?_, g1, g2'⟩
          rw [hrun, g3]
          simp [flatG]
        · have hrun := run_append_grow (P := P) w t vt ty inf zv ht hfit.info hfit.zero ab 0 c [] (by simp) (by simp) ⟨E.blk l2, E.base l2 + i2 * k, none⟩ m c2 (flatG g2 i2 m) (by rw [p1, hfit.size]) hcell2 hcn (by omega) (growslice_fits hcn hbytes)
          obtain ⟨g1, g2', g3⟩ := grow (grownCap w (0 + m) c ty) hge
          refine ⟨_, _, ?_, g1, g2'⟩
          rw [hrun, g3]
          simp [flatG]
      · obtain ⟨hnil, hic, rfl, hcell⟩ := q4 (by omega)
        have hrun := run_append_grow (P := P) w t vt ty inf zv ht hfit.info hfit.zero ⟨E.blk l, E.base l + i * k, none⟩ n c (flatG g i n) (by rw [q1, hfit.size]) hcell ⟨E.blk l2, E.base l2 + i2 * k, none⟩ m c2 (flatG g2 i2 m) (by rw [p1, hfit.size]) hcell2 hcn (by omega) (growslice_fits hcn hbytes)
        obtain ⟨g1, g2', g3⟩ := grow (grownCap w (n + m) c ty) hge
        refine ⟨_, _, ?_, g1, g2'⟩
        rw [hrun, g3]

/-- A nil slice that is lengthened. -/
theorem append_nilD (h : HRep E H w) {ty k : Nat} (hk : 0 < k)
    {l2 N2 i2 m z2 : Nat} {g2 : Nat → List Value} (hr2 : rowOf H l2 = some (k, N2, g2)) (hok2 : SV.ok E (.sl l2 k i2 m z2)) (hm : i2 + m ≤ N2) (hmost : m ≤ most)
    {t vt : TypeId} (ht : P.underlying t = some (.slice ty)) {inf : TypeInfo} {zv : Value} (hfit : Fit P ty k inf zv) :
    ∃ E' w', (Builtin.append_ #[t, t] vt #[.slice none 0 0, (SV.sl l2 k i2 m z2).conc E]).run P w = .ok ((SV.sl H.length k 0 m 0).conc E') w' ∧
      Step H.length E H w E' (H ++ [.row ty k m (fun j => g2 (i2 + j))]) w' ∧ SV.ok E' (.sl H.length k 0 m 0) := by
  have hrows2 := rowOf_rows h hr2
  obtain ⟨b2, c2, e2, p1, p2, p3, p4⟩ := src_cells hrows2 hok2 hm
  have hmost' : most = 1000000 := rfl
  rw [e2]
  by_cases h0 : m = 0
  · subst h0
    refine ⟨E.push H.length 0 0 0 true, w, ?_, push_nil h hk, ⟨fun _ => rfl, fun hh => by simp at hh⟩⟩
    rw [run_append_none ht hfit.info none 0 0 (Nat.le_refl _)]
    simp [SV.conc]
  · obtain ⟨hnil2, hi2, rfl, hcell2⟩ := p4 (by omega)
    have hge := grownCap_ge w m 0 ty
    have hb : m * inf.bytes ≤ 1000000 * 1000 := Nat.mul_le_mul (by omega) hfit.bytes
    have hrun := run_append_nil (P := P) w t vt ty inf zv ht hfit.info hfit.zero ⟨E.blk l2, E.base l2 + i2 * k, none⟩ m c2 (flatG g2 i2 m) (by rw [p1, hfit.size]) hcell2 (by omega) (by omega) (by omega)
    have hp := push_row (t := ty) (k := k) (N := m) (cap := grownCap w m 0 ty) (g := fun j => g2 (i2 + j)) h (cs := (flatG g2 i2 m).toArray ++ Builtin.zeroCells zv.cells (grownCap w m 0 ty - m)) hk hge (by
        simp only [Array.size_append, List.size_toArray, size_zeroCells, hfit.cells, p1, ← Nat.add_mul]
        congr 1
        omega) (fun i hi j hj => by
          have hb : (i + 1) * k ≤ m * k := Nat.mul_le_mul_right k hi
          rw [Nat.add_mul, Nat.one_mul] at hb
          rw [← Array.getElem?_toList, Array.toList_append, List.getElem?_append_left (by rw [p1]; omega)]
          exact flatG_get g2 i2 k m p3 i j hi hj) p3 (fun j hj => hrows2.one _ (by omega))
    refine ⟨_, _, ?_, hp, ⟨fun hh => by simp at hh, fun _ => by simpa using hge⟩⟩
    rw [hrun]
    simp only [SV.conc, Env.push_nil, Env.push_blk, Env.push_base, Env.push_cap, ite_self, Nat.zero_mul, Nat.add_zero, Nat.sub_zero]

theorem eff_append (h : HRep E H w) (hf : FRep E H.length fr a) {o : Oper} {args : Array Operand} {argTypes : Array TypeId} (hop : o.op = .call { callee := .builtin .append, args, argTypes }) {Q : AV × Heap → Prop} (hq : (effA P fr H o.op).sat P Q) : EffOk P E H w a o Q := by
  rw [hop] at hq
  simp only [effA] at hq
  have eargs : (args.map a.eval).toList = (args.toList.map (opnd fr)).map (AV.conc E) := by simp [hf.eval]
  have hmem : ∀ x ∈ args.toList.map (opnd fr), x.ok E := by
    intro x hx
    obtain ⟨y, _, rfl⟩ := List.mem_map.1 hx
    exact hf.opnd_ok y
  split at hq
  · rename_i l k0 i n z l2 k02 i2 m z2 t t' h1 h2
    split at hq
    · rename_i ty k N g k2 N2 g2 e hr hr2 he
      split at hq
      · rename_i hc
        obtain ⟨rfl, _, rfl, rfl, rfl, rfl, hfit⟩ := hc
        obtain ⟨⟨c1, c2, c3⟩, hq⟩ := hq
        obtain ⟨inf, zv, hfit⟩ := fitE_fit hfit
        rw [h1] at hmem
        obtain ⟨E', w', hrun, hst, hok⟩ := append_own h hr (ok_s.1 (hmem _ (List.mem_cons_self))) c1 hr2 (ok_s.1 (hmem _ (List.mem_cons_of_mem _ List.mem_cons_self))) c2 c3 (vt := o.type) (run_elemT he) hfit
        have e1 : args.map a.eval = #[(SV.sl l k02 i n z).conc E, (SV.sl l2 k02 i2 m z2).conc E] := by
          rw [← Array.toList_inj, eargs, h1]
          rfl
        have e2 : argTypes = #[t, t] := by rw [← Array.toList_inj]; exact h2
        refine ⟨_, _, _, E', w', ?_, .inl rfl, hst, ?_, ok_s.2 hok, hq⟩
        · simp only [execOp, hop, resolve, e1, e2, invoke, builtin, Sem.run_bind, Sem.run_pure, Result.andThen_ok]
          rw [hrun]
          rfl
        · simp [AV.ref, EV.ref, SV.ref]
      · cases hq
    · cases hq
  · rename_i l2 k02 i2 m z2 t t' h1 h2
    split at hq
    · rename_i k2 N2 g2 e hr2 he
      split at hq
      · rename_i hc
        obtain ⟨rfl, rfl, hk, hfit⟩ := hc
        obtain ⟨⟨c2, c3⟩, hq⟩ := hq
        obtain ⟨inf, zv, hfit⟩ := fitE_fit hfit
        rw [h1] at hmem
        obtain ⟨E', w', hrun, hst, hok⟩ := append_nilD h hk hr2 (ok_s.1 (hmem _ (List.mem_cons_of_mem _ List.mem_cons_self))) c2 c3 (vt := o.type) (run_elemT he) hfit
        have e1 : args.map a.eval = #[.slice none 0 0, (SV.sl l2 k02 i2 m z2).conc E] := by
          rw [← Array.toList_inj, eargs, h1]
          rfl
        have e2 : argTypes = #[t, t] := by rw [← Array.toList_inj]; exact h2
        refine ⟨_, _, _, E', w', ?_, .inl rfl, hst, ?_, ok_s.2 hok, hq⟩
        · simp only [execOp, hop, resolve, e1, e2, invoke, builtin, Sem.run_bind, Sem.run_pure, Result.andThen_ok]
          rw [hrun]
          rfl
        · simp [AV.ref, EV.ref, SV.ref]
      · cases hq
    · cases hq
  · cases hq

/-- Whatever the evaluator says of an operation that turns memory. -/
theorem eff_sat (h : HRep E H w) (hf : FRep E H.length fr a) {o : Oper} {Q : AV × Heap → Prop} (hq : (effA P fr H o.op).sat P Q) : EffOk P E H w a o Q := by
  cases hop : o.op <;> try (rw [hop] at hq; exact hq.elim)
  case alloc t => exact eff_alloc h hf hop hq
  case box t x => exact eff_box h hf hop hq
  case buildSlice t n parts => exact eff_buildSlice h hf hop hq
  case store t x y => exact eff_store h hf hop hq
  case makeMap t c => cases c with
    | none => exact eff_makeMap h hf hop hq
    | some x => rw [hop] at hq; exact hq.elim
  case mapUpdate t m key x => exact eff_mapUpdate h hf hop hq
  case lookup t m key b => cases b with
    | true => exact eff_lookup h hf hop hq
    | false => rw [hop] at hq; exact hq.elim
  case call c =>
    obtain ⟨callee, args, argTypes⟩ := c
    cases callee <;> try (rw [hop] at hq; exact hq.elim)
    rename_i b
    cases b <;> try (rw [hop] at hq; exact hq.elim)
    · exact eff_append h hf hop hq
    · exact eff_delete h hf hop hq

end
end Go.Proofs.Ythckkoledhjmeaa.Ev

/-
  The abstract evaluator: one operation; regions that have one order.
-/
namespace Go.Proofs.Ythckkoledhjmeaa.Ev
open Go

/-- What is asked of the program once. -/
structure Fine (P : Program) : Prop where
  name : ∀ (f : Nat) (fn : Func), P.funcs[f]? = some fn → (fn.name == "runtime.NumGoroutine") = false
  mixed : P.follows .mixedOrders = true

/-- Calls that are answered so are what the calls do. -/
def ClOk {α : Type} (P : Program) (cl : Cl α) (Q : α → Prop) : Prop :=
  ∀ f args H (k : AV → Heap → T α), (cl f args H k).sat P Q → CallsA P f args H fun r H' => (k r H').sat P Q

section
variable {P : Program} {E : Env} {H : Heap} {fr : List AV} {a : Act} {w : World} {α : Type} {cl : Cl α} {Q0 : α → Prop}

/-- What an operation leaves. -/
def Left (_ : Program) (E : Env) (H : Heap) (w : World) (a : Act) (o : Oper) (Q : AV → Heap → Prop) (a' : Act) (w' : World) : Prop :=
  ∃ (v : AV) (H' : Heap) (E' : Env), a' = a.put o.dst (v.conc E') ∧ Step H.length E H w E' H' w' ∧ v.ref ≤ H'.length ∧ v.ok E' ∧ Q v H'

theorem wp_value {o : Oper} {v : Value} {K : Act → World → Prop} {Q : Exit → Act → World → Prop} (h : (execOp a.eval o).run P w = .ok (.value v) w) (hk : K (a.put o.dst v) w) : o.wp P a w K Q := by
  unfold Oper.wp
  rw [h]
  exact hk

theorem pure_left (h : HRep E H w) (hf : FRep E H.length fr a) {o : Oper} {k : AV → Heap → T α} {Q : Exit → Act → World → Prop}
    (hq : ((pureA P fr o.op).then fun v => k v H).sat P Q0) : o.wp P a w (Left P E H w a o fun v H' => (k v H').sat P Q0) Q := by
  obtain ⟨v, h1, h2⟩ := R.sat_then hq
  obtain ⟨g1, g2, g3⟩ := pure_gives hf o v h1
  exact wp_value (g1 w) ⟨v, H, E, rfl, .refl h (Nat.le_refl _), g2, g3, h2⟩

theorem read_left (h : HRep E H w) (hf : FRep E H.length fr a) {o : Oper} {l : Nat} {r : AB → R} {B : AB} (hr : readA P fr o.op = .at l r) (hl : H[l]? = some B) {k : AV → Heap → T α} {Q : Exit → Act → World → Prop}
    (hq : ((r B).then fun v => k v H).sat P Q0) : o.wp P a w (Left P E H w a o fun v H' => (k v H').sat P Q0) Q := by
  obtain ⟨v, h1, h2⟩ := R.sat_then hq
  obtain ⟨g1, g2, g3⟩ := read_gives hf o hr h1 (h.rep l B hl) (h.ok l B hl)
  exact wp_value g1 ⟨v, H, E, rfl, .refl h (Nat.le_refl _), g2, g3, h2⟩

theorem eff_left (h : HRep E H w) (hf : FRep E H.length fr a) {o : Oper} {k : AV → Heap → T α} {Q : Exit → Act → World → Prop}
    (hq : ((effA P fr H o.op).bind fun x => k x.1 x.2).sat P Q0) : o.wp P a w (Left P E H w a o fun v H' => (k v H').sat P Q0) Q := by
  obtain ⟨nx, v, H', E', w', hrun, hnx, hst, g2, g3, hq⟩ := eff_sat h hf (T.sat_bind hq)
  unfold Oper.wp
  rw [hrun]
  rcases hnx with rfl | ⟨rfl, rfl⟩
  · exact ⟨v, H', E', rfl, hst, g2, g3, hq⟩
  · exact ⟨undefA, H', E', rfl, hst, g2, g3, hq⟩

theorem call_left (hP : Fine P) (hc : ClOk P cl Q0) (h : HRep E H w) (hf : FRep E H.length fr a) {o : Oper} {x : Operand} {args : Array Operand} {argTypes : Array TypeId} (hop : o.op = .call { callee := .value x, args, argTypes })
    {f : Nat} {caps : List (Nat × Nat)} (hx : opnd fr x = .e (.s (.fn f caps))) (hb : hasBody P f = true) {k : AV → Heap → T α} {Q : Exit → Act → World → Prop}
    (hq : (cl f (args.toList.map (opnd fr) ++ caps.map fun p => .e (.s (.ptr p.1 p.2))) H k).sat P Q0) : o.wp P a w (Left P E H w a o fun v H' => (k v H').sat P Q0) Q := by
  have hcall := hc _ _ _ _ hq E w h (by
    intro y hy
    rcases List.mem_append.1 hy with hy | hy
    · obtain ⟨z, _, rfl⟩ := List.mem_map.1 hy
      exact ⟨hf.opnd_ref z, hf.opnd_ok z⟩
    · obtain ⟨p, hp, rfl⟩ := List.mem_map.1 hy
      refine ⟨?_, ok_s.2 trivial⟩
      have h1 := hf.opnd_ref x
      rw [hx] at h1
      exact caps_ref h1 p hp)
  have eargs : args.map a.eval ++ (caps.map fun p => Value.pointer (some ⟨E.blk p.1, p.2, none⟩)).toArray = ((args.toList.map (opnd fr) ++ caps.map fun p => AV.e (.s (.ptr p.1 p.2))).map (AV.conc E)).toArray := by
    rw [← Array.toList_inj]
    have he : a.eval = AV.conc E ∘ opnd fr := funext hf.eval
    simp only [Array.toList_append, Array.toList_map, List.map_append, List.map_map, he]
    rfl
  have hbody : ∃ fn, P.funcs[f]? = some fn ∧ fn.body.isNone = false := by
    unfold hasBody at hb
    cases hfn : P.funcs[f]? with
    | none => simp [hfn] at hb
    | some fn => rw [hfn] at hb; exact ⟨fn, rfl, by cases hbb : fn.body <;> simp_all⟩
  obtain ⟨fn, hfn, hbn⟩ := hbody
  have hnm := hP.name f fn hfn
  have e1 : a.eval x = .func (.func f) #[] (caps.map fun p => Value.pointer (some ⟨E.blk p.1, p.2, none⟩)).toArray := by rw [hf.eval, hx]; rfl
  have hrun : (execOp a.eval o).run P w = .ok (.enter f ((args.toList.map (opnd fr) ++ caps.map fun p => AV.e (.s (.ptr p.1 p.2))).map (AV.conc E)).toArray) w := by
    rw [← eargs]
    simp only [execOp, hop, resolve, e1, Deferred.ofValue, Sem.run_bind, Sem.run_pure, Result.andThen_ok, invoke, callFunc, run_program, hfn, hnm, hbn]
    simp
  unfold Oper.wp
  rw [hrun]
  refine Calls.mono hcall fun e w' hh => ?_
  obtain ⟨r, H', E', rfl, hst, g2, g3, hq⟩ := hh
  exact ⟨r, H', E', rfl, hst, g2, g3, hq⟩

/-- Whatever the evaluator says of an operation. -/
theorem op_left (hP : Fine P) (hc : ClOk P cl Q0) (h : HRep E H w) (hf : FRep E H.length fr a) {o : Oper} {k : AV → Heap → T α} {Q : Exit → Act → World → Prop}
    (hq : (opT P cl o fr H k).sat P Q0) : o.wp P a w (Left P E H w a o fun v H' => (k v H').sat P Q0) Q := by
  unfold opT at hq
  cases hp : pureA P fr o.op with
  | v x => rw [hp] at hq; exact pure_left h hf (by rw [hp]; exact hq)
  | b t => rw [hp] at hq; exact pure_left h hf (by rw [hp]; exact hq)
  | need p r => rw [hp] at hq; exact pure_left h hf (by rw [hp]; exact hq)
  | bad =>
    simp only [hp] at hq
    cases hr : readA P fr o.op with
    | «at» l r =>
      simp only [hr] at hq
      cases hl : H[l]? with
      | none => rw [hl] at hq; exact hq.elim
      | some B => rw [hl] at hq; exact read_left h hf hr hl hq
    | none =>
      simp only [hr] at hq
      split at hq
      · rename_i x args argTypes hop
        split at hq
        · rename_i f caps hx
          split at hq
          · rename_i hb
            exact call_left hP hc h hf hop hx hb hq
          · exact hq.elim
        · exact hq.elim
      · exact eff_left h hf hq

theorem FRep.left (hf : FRep E H.length fr a) {o : Oper} {v : AV} {H' : Heap} {E' : Env} {w' : World} (hst : Step H.length E H w E' H' w') (hv : v.ref ≤ H'.length) (ho : v.ok E') :
    FRep E' H'.length (Ev.put fr o.dst v) (a.put o.dst (v.conc E')) := (hf.agree hst.agree hst.len).put _ _ hv ho

/-! ### Guards -/

theorem guard_yes (hf : FRep E H.length fr a) {ops : Array Oper} {o : Oper} (h : guardA ops fr o.guard = .yes) : Region.wanted o (yielded ops a.tmps) = true := by
  unfold guardA at h
  unfold Region.wanted
  split at h
  · rename_i hg; rw [hg]
  · rename_i j want hg
    rw [hg]
    cases hd : (ops[j]?).bind (·.dst) with
    | none => rw [hd] at h; cases h
    | some d =>
      rw [hd] at h
      simp only [yielded, hd, Option.bind_some, hf.tmps, List.getElem?_toArray, List.getElem?_map]
      simp only [] at h
      split at h
      · rename_i b hb
        rw [hb]
        split at h
        · rename_i hw; subst hw; simp [AV.conc, EV.conc, SV.conc]
        · cases h
      · cases h
      · cases h

theorem guard_dyn (hf : FRep E H.length fr a) {ops : Array Oper} {o : Oper} {b want : Bool} (h : guardA ops fr o.guard = .dyn b want) : Region.wanted o (yielded ops a.tmps) = (b == want) := by
  unfold guardA at h
  unfold Region.wanted
  split at h
  · cases h
  · rename_i j want' hg
    rw [hg]
    cases hd : (ops[j]?).bind (·.dst) with
    | none => rw [hd] at h; cases h
    | some d =>
      rw [hd] at h
      simp only [yielded, hd, Option.bind_some, hf.tmps, List.getElem?_toArray, List.getElem?_map]
      simp only [] at h
      split at h
      · split at h <;> cases h
      · rename_i b' hb
        cases h
        rw [hb]
        simp [AV.conc, EV.conc, SV.conc]
      · cases h

theorem guard_no (hf : FRep E H.length fr a) {ops : Array Oper} {o : Oper} (h : guardA ops fr o.guard = .no) : Region.wanted o (yielded ops a.tmps) = false := by
  unfold guardA at h
  unfold Region.wanted
  split at h
  · cases h
  · rename_i j want hg
    rw [hg]
    cases hd : (ops[j]?).bind (·.dst) with
    | none => simp [yielded, hd]
    | some d =>
      rw [hd] at h
      simp only [yielded, hd, Option.bind_some, hf.tmps, List.getElem?_toArray, List.getElem?_map]
      simp only [] at h
      split at h
      · rename_i b hb
        rw [hb]
        split at h
        · cases h
        · rename_i hw; simp [AV.conc, EV.conc, SV.conc, hw]
      · cases h
      · rename_i h1 h2
        cases hx : fr[d]? with
        | none => simp
        | some x =>
          cases x with
          | tup vs => simp [AV.conc]
          | e y => cases y with
            | agg cs => simp [AV.conc, EV.conc]
            | s z =>
              cases z with
              | c v => cases v <;> simp [AV.conc, EV.conc, SV.conc] <;> exact absurd hx (h1 _)
              | d v => cases v <;> simp [AV.conc, EV.conc, SV.conc] <;> exact absurd hx (h2 _)
              | ptr l o => simp [AV.conc, EV.conc, SV.conc]
              | rp l k i o => simp [AV.conc, EV.conc, SV.conc]
              | sl l k i n z => simp only [AV.conc, EV.conc, SV.conc, Option.map_some]; cases E.nil l <;> simp
              | mp l => simp [AV.conc, EV.conc, SV.conc]
              | fn f caps => simp [AV.conc, EV.conc, SV.conc]

/-! ### Regions of one order -/

theorem lets_imp {Q Q' : Exit → Act → World → Prop} (hQ : ∀ e a w, Q e a w → Q' e a w) (h : LetsOut Q) : LetsOut Q' := let ⟨a, w, h⟩ := h; ⟨a, w, hQ _ _ _ h⟩

theorem upon_imp {o : Oper} {K K' : Act → World → Prop} {Q Q' : Exit → Act → World → Prop} (hk : ∀ a w, K a w → K' a w) (hQ : ∀ e a w, Q e a w → Q' e a w) {a : Act} {w : World} (h : o.wp P a w K Q) : o.wp P a w K' Q' := by
  unfold Oper.wp at *
  generalize (execOp a.eval o).run P w = r at *
  cases r with
  | ok n w' =>
    cases n <;> simp only [Oper.upon] at h ⊢ <;>
      first
        | exact hk _ _ h
        | exact Calls.mono h (fun e w'' he => by cases e <;> first | exact hk _ _ he | exact hQ _ _ _ he | exact lets_imp hQ he)
        | exact Rows.mono h (fun _ _ he => hk _ _ he)
  | halt x w' => cases x <;> simp only [Oper.upon] at h ⊢ <;> exact hQ _ _ _ h

theorem wpList_imp {ops : Array Oper} {Q Q' : Exit → Act → World → Prop} (hQ : ∀ e a w, Q e a w → Q' e a w) : ∀ (l : List Oper) (a : Act) (w : World), wpList P ops Q l a w → wpList P ops Q' l a w
  | [], _, _, h => hQ _ _ _ h
  | o :: rest, a, w, h => by
    unfold wpList at h ⊢
    split at h
    · rename_i hw
      rw [if_pos hw]
      rcases h with h | ⟨h1, h2⟩
      · exact .inl (upon_imp (wpList_imp hQ rest) hQ h)
      · exact .inr ⟨h1, lets_imp hQ h2⟩
    · rename_i hw
      rw [if_neg hw]
      exact wpList_imp hQ rest _ _ h


theorem reg_sat {α : Type} {cl : Cl α} {Q0 : α → Prop} (hP : Fine P) (hc : ClOk P cl Q0) {ops : Array Oper} {k : St → T α} :
    ∀ (l : List Oper) {E : Env} {σ : St} {a : Act} {w : World}, HRep E σ.H w → FRep E σ.H.length σ.fr a → (regT P cl ops l σ k).sat P Q0 →
      wpList P ops (fun e a' w' => ∃ (σ' : St) (E' : Env), e = .normal ∧ Step σ.H.length E σ.H w E' σ'.H w' ∧ FRep E' σ'.H.length σ'.fr a' ∧ (k σ').sat P Q0) l a w
  | [], E, σ, a, w, h, hf, hq => ⟨σ, E, rfl, .refl h (Nat.le_refl _), hf, hq⟩
  | o :: rest, E, σ, a, w, h, hf, hq => by
    have go : ∀ {v : AV} {H' : Heap} {E' : Env} {w' : World}, Step σ.H.length E σ.H w E' H' w' → FRep E' H'.length (put σ.fr o.dst v) (a.put o.dst (v.conc E')) → (regT P cl ops rest ⟨put σ.fr o.dst v, H'⟩ k).sat P Q0 →
        wpList P ops (fun e a' w' => ∃ (σ' : St) (E' : Env), e = .normal ∧ Step σ.H.length E σ.H w E' σ'.H w' ∧ FRep E' σ'.H.length σ'.fr a' ∧ (k σ').sat P Q0) rest (a.put o.dst (v.conc E')) w' := by
      intro v H' E' w' hst hf' hq'
      have ih := reg_sat hP hc rest (σ := ⟨put σ.fr o.dst v, H'⟩) hst.rep hf' hq'
      refine wpList_imp ?_ rest _ _ ih
      rintro e a' w'' ⟨σ', E'', h1, h2, h3, h4⟩
      exact ⟨σ', E'', h1, hst.trans h2 hst.len, h3, h4⟩
    have yes : (opT P cl o σ.fr σ.H fun v H' => regT P cl ops rest ⟨put σ.fr o.dst v, H'⟩ k).sat P Q0 → Region.wanted o (yielded ops a.tmps) = true →
        wpList P ops (fun e a' w' => ∃ (σ' : St) (E' : Env), e = .normal ∧ Step σ.H.length E σ.H w E' σ'.H w' ∧ FRep E' σ'.H.length σ'.fr a' ∧ (k σ').sat P Q0) (o :: rest) a w := by
      intro hq hw
      unfold wpList
      rw [if_pos hw]
      refine .inl (Oper.wp_mono ?_ (op_left hP hc h hf hq))
      rintro a' w' ⟨v, H', E', rfl, hst, g2, g3, hq'⟩
      exact go hst (hf.left hst g2 g3) hq'
    have no : (regT P cl ops rest ⟨put σ.fr o.dst undefA, σ.H⟩ k).sat P Q0 → Region.wanted o (yielded ops a.tmps) = false →
        wpList P ops (fun e a' w' => ∃ (σ' : St) (E' : Env), e = .normal ∧ Step σ.H.length E σ.H w E' σ'.H w' ∧ FRep E' σ'.H.length σ'.fr a' ∧ (k σ').sat P Q0) (o :: rest) a w := by
      intro hq hw
      unfold wpList
      rw [if_neg (by simp [hw])]
      exact go (.refl h (Nat.le_refl _)) (hf.put _ _ (Nat.zero_le _) undef_ok) hq
    unfold regT at hq
    cases hg : guardA ops σ.fr o.guard with
    | yes => rw [hg] at hq; exact yes hq (guard_yes hf hg)
    | no => rw [hg] at hq; exact no hq (guard_no hf hg)
    | dyn b want =>
      rw [hg] at hq
      have hw := guard_dyn hf hg
      cases hb : b == want with
      | true => exact yes (hq.1 hb) (by rw [hw, hb])
      | false => exact no (hq.2 hb) (by rw [hw, hb])

end
end Go.Proofs.Ythckkoledhjmeaa.Ev

/-
  The abstract evaluator: regions that have many orders.
-/
namespace Go.Proofs.Ythckkoledhjmeaa.Ev
open Go

/-- Operation j comes behind operation i in every order. -/
inductive Dep (ops : Array Oper) (i : Nat) : Nat → Prop
  | one {j : Nat} {o : Oper} {e : Edge} (h : ops[j]? = some o) (he : e ∈ o.after) (hb : Region.binds .any e = true) (hi : e.on = i) : Dep ops i j
  | more {j : Nat} {o : Oper} {e : Edge} (h : ops[j]? = some o) (he : e ∈ o.after) (hb : Region.binds .any e = true) (hd : Dep ops i e.on) : Dep ops i j

abbrev Wc := Nat × (World → Prop)

/-- What is watched holds, but what only such an operation could break as comes behind it. -/
def Gd (F : Nat → Bool) (ops : Array Oper) (Γ : List Wc) (listed : Array Bool) (w : World) : Prop :=
  ∀ p ∈ Γ, (∀ k, F k = true → listed.getD k false = true → ¬ Dep ops p.1 k) → p.2 w

section
variable {P : Program} {ops : Array Oper} {Q : Exit → Act → World → Prop} {F : Nat → Bool} {Γ : List Wc}

theorem getD_keep {listed : Array Bool} {i k : Nat} (h : listed.getD k false = true) : (listed.setIfInBounds i true).getD k false = true := by
  by_cases he : i = k
  · subst he
    have hlt : i < listed.size := by
      rcases Nat.lt_or_ge i listed.size with h1 | h1
      · exact h1
      · simp [Array.getD, Nat.not_lt.2 h1] at h
    simp [hlt]
  · rw [getD_set_ne false he]; exact h

theorem Gd.keep {listed : Array Bool} {i : Nat} {w : World} (h : Gd F ops Γ listed w) : Gd F ops Γ (listed.setIfInBounds i true) w :=
  fun p hp hk => h p hp fun k hF hl => hk k hF (getD_keep hl)

theorem Gd.weak {listed : Array Bool} {p : Wc} {w : World} (h : Gd F ops (p :: Γ) listed w) : Gd F ops Γ listed w := fun q hq => h q (List.mem_cons_of_mem _ hq)

/-- Whatever order is picked from here on, what is watched holds behind every operation that is carried out. -/
def wpAnyG (P : Program) (ops : Array Oper) (Q : Exit → Act → World → Prop) (F : Nat → Bool) (Γ : List Wc) : Nat → Array Bool → Act → World → Prop
  | 0, listed, a, w => Region.ready .any ops listed = [] ∧ Q .normal a w
  | fuel + 1, listed, a, w =>
    (Region.ready .any ops listed = [] → Q .normal a w) ∧
    ∀ i ∈ Region.ready .any ops listed, wpOp P ops Q i (fun a' w' => Gd F ops Γ (listed.setIfInBounds i true) w' ∧ wpAnyG P ops Q F Γ fuel (listed.setIfInBounds i true) a' w') a w

theorem wpAny_of_G : ∀ (fuel : Nat) (listed : Array Bool) (a : Act) (w : World), wpAnyG P ops Q F Γ fuel listed a w → wpAny P .any ops Q fuel listed a w
  | 0, _, _, _, h => h
  | fuel + 1, _, _, _, h => ⟨h.1, fun i hi => wpOp_mono (fun a' w' h' => wpAny_of_G fuel _ a' w' h'.2) (h.2 i hi)⟩

theorem wpAnyG_weak {p : Wc} : ∀ (fuel : Nat) (listed : Array Bool) (a : Act) (w : World), wpAnyG P ops Q F (p :: Γ) fuel listed a w → wpAnyG P ops Q F Γ fuel listed a w
  | 0, _, _, _, h => h
  | fuel + 1, _, _, _, h => ⟨h.1, fun i hi => wpOp_mono (fun a' w' h' => ⟨h'.1.weak, wpAnyG_weak fuel _ a' w' h'.2⟩) (h.2 i hi)⟩

/-- An operation that may come up may be taken first. -/
theorem wpAnyG_first {i : Nat} {oi : Oper} {v : Value} {S : World → Prop} (hi : ops[i]? = some oi) (hsel : ∀ (j : Nat) (o : Oper) cs b, ops[j]? = some o → o.op ≠ .select cs b)
    (hQ : ∀ c a w, Q (.panic c) (a.put oi.dst v) w → Q (.panic c) a w) (hF : F i = false) :
    ∀ (fuel : Nat) (listed : Array Bool) (a : Act) (w : World),
      (∀ j oj, ops[j]? = some oj → j ≠ i → listed.getD j true = false → (∀ e ∈ oj.after, Region.binds .any e = true → e.on ≠ i) → oi.apart ops oj = true) →
      i ∈ Region.ready .any ops listed → (∀ k, listed.getD k false = true → ¬ Dep ops i k) → YieldsIf P ops S oi v a → S w → Gd F ops Γ listed w →
      wpAnyG P ops Q F ((i, S) :: Γ) fuel (listed.setIfInBounds i true) (a.put oi.dst v) w → wpAnyG P ops Q F Γ (fuel + 1) listed a w := by
  intro fuel
  induction fuel with
  | zero =>
    intro listed a w hfree hr hcl hy hS hG H
    refine ⟨fun h => (by rw [h] at hr; cases hr), fun j hj => ?_⟩
    by_cases hji : j = i
    · subst hji; exact hy.wpOp hi hS ⟨hG.keep, H⟩
    · have := ready_mono hj hji
      rw [H.1] at this
      cases this
  | succ fuel ih =>
    intro listed a w hfree hr hcl hy hS hG H
    refine ⟨fun h => (by rw [h] at hr; cases hr), fun j hj => ?_⟩
    by_cases hji : j = i
    · subst hji; exact hy.wpOp hi hS ⟨hG.keep, wpAnyG_weak _ _ _ _ H⟩
    · have h1 := H.2 j (ready_mono hj hji)
      obtain ⟨hjun, oj, hoj, hall⟩ := mem_ready.1 hj
      have hiun := (mem_ready.1 hr).1
      have hin : listed.getD i false ≠ true := by
        intro h0
        rcases Nat.lt_or_ge i listed.size with h' | h'
        · simp [h'] at h0 hiun; rw [hiun] at h0; cases h0
        · simp [Array.getElem?_eq_none h'] at h0
      have hnot : ∀ e ∈ oj.after, Region.binds .any e = true → e.on ≠ i := fun e he hb heq => hin (heq ▸ hall e he hb)
      have hdep : ¬ Dep ops i j := by
        intro hd
        cases hd with
        | one h he hb hh => rw [hoj] at h; cases h; exact hnot _ he hb hh
        | more h he hb hd => rw [hoj] at h; cases h; exact hcl _ (hall _ he hb) hd
      have h2 := wpOp_putIf hoj (hfree j oj hoj hji hjun hnot) (fun cs b => hsel i oi cs b hi) (fun cs b => hsel j oj cs b hoj) hQ hy h1
      have hfree' : ∀ k ok, ops[k]? = some ok → k ≠ i → (listed.setIfInBounds j true).getD k true = false →
          (∀ e ∈ ok.after, Region.binds .any e = true → e.on ≠ i) → oi.apart ops ok = true := fun k ok hk hki hun hno => by
        refine hfree k ok hk hki ?_ hno
        by_cases hjk : j = k
        · subst hjk; exact hjun
        · rw [getD_set_ne true hjk] at hun; exact hun
      have hcl' : ∀ k, (listed.setIfInBounds j true).getD k false = true → ¬ Dep ops i k := fun k hk => by
        by_cases hjk : j = k
        · subst hjk; exact hdep
        · rw [getD_set_ne false hjk] at hk; exact hcl k hk
      refine wpOp_mono (fun a' w' h3 => ?_) h2
      obtain ⟨hy', hGd, hrest⟩ := h3
      have hG' : Gd F ops Γ (listed.setIfInBounds j true) w' := fun p hp hk => hGd p (List.mem_cons_of_mem _ hp) fun k hFk hl => by
        by_cases hki : k = i
        · subst hki; rw [hF] at hFk; cases hFk
        · refine hk k hFk ?_
          rw [Array.setIfInBounds_comm _ _ (Ne.symm hji), getD_set_ne false (Ne.symm hki)] at hl
          exact hl
      have hS' : S w' := hGd (i, S) List.mem_cons_self fun k hFk hl => by
        by_cases hki : k = i
        · subst hki; rw [hF] at hFk; cases hFk
        · rw [Array.setIfInBounds_comm _ _ (Ne.symm hji), getD_set_ne false (Ne.symm hki)] at hl
          exact hcl' k hl
      refine ⟨hG', ih (listed.setIfInBounds j true) a' w' hfree' (ready_mono hr (Ne.symm hji)) hcl' hy' hS' hG' ?_⟩
      rw [Array.setIfInBounds_comm _ _ hji]
      exact hrest

end

/-! ### Orders that are held against a region -/

def edgeB (ops : Array Oper) (i j : Nat) : Bool :=
  match ops[i]? with
  | some o => o.after.any fun e => Region.binds .any e && e.on == j
  | none => false

def chainB (ops : Array Oper) : Nat → List Nat → Bool
  | _, [] => false
  | i, x :: r => edgeB ops i x && (r.isEmpty || chainB ops x r)

def Ct.forced : Ct → List Nat
  | .done => []
  | .take _ c => c.forced
  | .force i _ c => i :: c.forced
  | .two i _ ci j _ cj => i :: j :: (ci.forced ++ cj.forced)

def ordB (ops : Array Oper) (F : List Nat) : Nat → Array Bool → Ct → Bool
  | _, listed, .done => (Region.ready .any ops listed).isEmpty
  | n + 1, listed, .take i c => !F.contains i && Region.free .any ops listed i && (Region.ready .any ops listed).contains i && ordB ops F n (listed.setIfInBounds i true) c
  | n + 1, listed, .force i ds c => F.contains i && (Region.ready .any ops listed == [i]) && ds.all (chainB ops i) && ordB ops F n (listed.setIfInBounds i true) c
  | n + 1, listed, .two i di ci j dj cj => F.contains i && F.contains j && (Region.ready .any ops listed == [i, j]) && di.all (chainB ops i) && dj.all (chainB ops j) && ordB ops F n (listed.setIfInBounds i true) ci && ordB ops F n (listed.setIfInBounds j true) cj
  | 0, _, _ => false

def regB (ops : Array Oper) (c : Ct) : Bool := Region.noSelect ops && ordB ops c.forced ops.size (Array.replicate ops.size false) c

theorem edge_dep {ops : Array Oper} {i j : Nat} (h : edgeB ops i j = true) : Dep ops j i := by
  unfold edgeB at h
  split at h
  · rename_i o ho
    obtain ⟨e, he, hb⟩ := Array.any_eq_true'.1 h
    simp only [Bool.and_eq_true, beq_iff_eq] at hb
    exact .one ho he hb.1 hb.2
  · cases h

theorem Dep.cons {ops : Array Oper} {i j x : Nat} (h : edgeB ops i x = true) (hd : Dep ops j x) : Dep ops j i := by
  unfold edgeB at h
  split at h
  · rename_i o ho
    obtain ⟨e, he, hb⟩ := Array.any_eq_true'.1 h
    simp only [Bool.and_eq_true, beq_iff_eq] at hb
    exact .more ho he hb.1 (hb.2 ▸ hd)
  · cases h

theorem chain_dep {ops : Array Oper} : ∀ {d : List Nat} {i z : Nat}, chainB ops i d = true → Dep ops (d.getLastD z) i
  | [], _, _, h => by cases h
  | [x], _, _, h => by simp only [chainB, Bool.and_eq_true] at h; exact edge_dep h.1
  | x :: y :: r, i, z, h => by
    simp only [chainB, Bool.and_eq_true, List.isEmpty_cons, Bool.false_or] at h
    have h2 : chainB ops x (y :: r) = true := by simp only [chainB, Bool.and_eq_true]; exact h.2
    have := chain_dep (z := x) h2
    exact Dep.cons h.1 this

end Go.Proofs.Ythckkoledhjmeaa.Ev

/-
  The abstract evaluator: regions that have many orders, by one order that is held against them.
-/
namespace Go.Proofs.Ythckkoledhjmeaa.Ev
open Go

/-- What a load that was taken first asks: its block is as it was. -/
def HoldsW (x : Wa) (E : Env) (n : Nat) (S : World → Prop) : Prop :=
  ∀ (E' : Env) (H' : Heap) (w' : World), Env.Agree n E E' → n ≤ H'.length → HRep E' H' w' → H'[x.l]? = some x.B → S w'

def WInv (F : Nat → Bool) (ops : Array Oper) (Γ : List Wc) (ws : List Wa) (listed : Array Bool) (E : Env) (n : Nat) : Prop :=
  ∀ p ∈ Γ, (∀ w, p.2 w) ∨ (∃ x ∈ ws, x.i = p.1 ∧ HoldsW x E n p.2) ∨ (∃ k, F k = true ∧ listed.getD k false = true ∧ Dep ops p.1 k)

def Closed (ops : Array Oper) (listed : Array Bool) : Prop :=
  ∀ k, listed.getD k false = true → ∀ o, ops[k]? = some o → ∀ e ∈ o.after, Region.binds .any e = true → listed.getD e.on false = true

section
variable {P : Program} {ops : Array Oper} {F : Nat → Bool} {Γ : List Wc} {E : Env} {H : Heap} {fr : List AV} {a : Act} {w : World} {α : Type} {cl : Cl α} {Q0 : α → Prop}

theorem HoldsW.step {x : Wa} {S : World → Prop} {n : Nat} {E' : Env} {n' : Nat} (h : HoldsW x E n S) (hE : Env.Agree n E E') (hn : n ≤ n') : HoldsW x E' n' S :=
  fun E'' H'' w'' hE' hn' hr hl => h E'' H'' w'' (hE.trans (hE'.mono hn)) (Nat.le_trans hn hn') hr hl

theorem Closed.set {listed : Array Bool} (h : Closed ops listed) {i : Nat} (hi : i ∈ Region.ready .any ops listed) : Closed ops (listed.setIfInBounds i true) := by
  intro k hk o ho e he hb
  by_cases hki : i = k
  · subst hki
    obtain ⟨_, o', ho', hall⟩ := mem_ready.1 hi
    rw [ho] at ho'
    cases ho'
    exact getD_keep (hall e he hb)
  · rw [getD_set_ne false hki] at hk
    exact getD_keep (h k hk o ho e he hb)

theorem Closed.free {listed : Array Bool} (h : Closed ops listed) {i : Nat} (hi : listed.getD i false = false) {k : Nat} (hk : listed.getD k false = true) : ¬ Dep ops i k := by
  intro hd
  induction hd with
  | one ho he hb hh => have := h _ hk _ ho _ he hb; rw [hh, hi] at this; cases this
  | more ho he hb hd ih => exact ih (h _ hk _ ho _ he hb)

theorem ready_un {listed : Array Bool} {i : Nat} (hi : i ∈ Region.ready .any ops listed) : listed.getD i false = false := by
  have h := (mem_ready.1 hi).1
  rcases Nat.lt_or_ge i listed.size with h' | h'
  · simp [h'] at h ⊢; exact h
  · simp [Array.getElem?_eq_none h']

theorem ready_get {listed : Array Bool} {i : Nat} (hi : i ∈ Region.ready .any ops listed) : (listed.setIfInBounds i true).getD i false = true := by
  have h := (mem_ready.1 hi).1
  rcases Nat.lt_or_ge i listed.size with h' | h'
  · simp [h']
  · simp [Array.getElem?_eq_none h'] at h

theorem keep_sat {β : Type} {Q : β → Prop} {ds : List Nat} {H : Heap} : ∀ {ws : List Wa} {k : List Wa → T β}, (keepT ds ws H k).sat P Q →
    ∃ ws', (∀ x ∈ ws, (x ∈ ws' ∧ H[x.l]? = some x.B) ∨ ds.contains x.i = true) ∧ (∀ x ∈ ws', x ∈ ws) ∧ (k ws').sat P Q
  | [], k, h => ⟨[], by simp, by simp, h⟩
  | x :: ws, k, h => by
    unfold keepT at h
    split at h
    · rename_i hd
      obtain ⟨ws', h1, h2, h3⟩ := keep_sat h
      refine ⟨ws', fun y hy => ?_, fun y hy => List.mem_cons_of_mem _ (h2 y hy), h3⟩
      rcases List.mem_cons.1 hy with rfl | hy
      · exact .inr hd
      · exact h1 y hy
    · obtain ⟨h0, h⟩ := h
      obtain ⟨ws', h1, h2, h3⟩ := keep_sat (k := fun ws' => k (x :: ws')) h
      refine ⟨x :: ws', fun y hy => ?_, fun y hy => ?_, h3⟩
      · rcases List.mem_cons.1 hy with rfl | hy
        · exact .inl ⟨List.mem_cons_self, h0⟩
        · rcases h1 y hy with ⟨h4, h5⟩ | h4
          · exact .inl ⟨List.mem_cons_of_mem _ h4, h5⟩
          · exact .inr h4
      · rcases List.mem_cons.1 hy with rfl | hy
        · exact List.mem_cons_self
        · exact List.mem_cons_of_mem _ (h2 y hy)

/-- What stands where the region ends. -/
def RegQ (E0 : Env) (H0 : Heap) (w0 : World) (R : St → Prop) (e : Exit) (a' : Act) (w' : World) : Prop :=
  ∃ (σ' : St) (E' : Env), e = .normal ∧ Step H0.length E0 H0 w0 E' σ'.H w' ∧ FRep E' σ'.H.length σ'.fr a' ∧ R σ'

/-- A state within a region. -/
structure At (P : Program) (ops : Array Oper) (F : Nat → Bool) (E0 : Env) (H0 : Heap) (w0 : World) (Γ : List Wc) (listed : Array Bool) (ws : List Wa) (σ : St) (E : Env) (a : Act) (w : World) : Prop where
  step : Step H0.length E0 H0 w0 E σ.H w
  fr : FRep E σ.H.length σ.fr a
  closed : Closed ops listed
  winv : WInv F ops Γ ws listed E σ.H.length
  gd : Gd F ops Γ listed w

theorem ord_force (hP : Fine P) {E0 : Env} {H0 : Heap} {w0 : World} {R : St → Prop} {listed : Array Bool} {ws : List Wa} {σ : St} (hat : At P ops F E0 H0 w0 Γ listed ws σ E a w) (hc : ClOk P cl Q0)
    {i : Nat} (hi : i ∈ Region.ready .any ops listed) (hF : F i = true) {ds : List (List Nat)} (hds : ds.all (chainB ops i) = true) {k : List Wa → St → T α} {n : Nat}
    (hq : (forceT P cl ops i ds ws σ k).sat P Q0)
    (hk : ∀ (ws' : List Wa) (σ' : St) (E' : Env) (a' : Act) (w' : World), At P ops F E0 H0 w0 Γ (listed.setIfInBounds i true) ws' σ' E' a' w' → (k ws' σ').sat P Q0 → wpAnyG P ops (RegQ E0 H0 w0 R) F Γ n (listed.setIfInBounds i true) a' w') :
    wpOp P ops (RegQ E0 H0 w0 R) i (fun a' w' => Gd F ops Γ (listed.setIfInBounds i true) w' ∧ wpAnyG P ops (RegQ E0 H0 w0 R) F Γ n (listed.setIfInBounds i true) a' w') a w := by
  obtain ⟨hst, hfr, hcl, hwi, hgd⟩ := hat
  obtain ⟨_, o, ho, _⟩ := mem_ready.1 hi
  unfold forceT at hq
  simp only [ho] at hq
  unfold wpOp
  simp only [ho]
  cases hg : guardA ops σ.fr o.guard with
  | dyn b want => rw [hg] at hq; exact hq.elim
  | no =>
    rw [hg] at hq
    rw [if_neg (by rw [guard_no hfr hg]; simp)]
    refine ⟨hgd.keep, hk ws ⟨put σ.fr o.dst undefA, σ.H⟩ E _ w ⟨hst, hfr.put _ _ (Nat.zero_le _) undef_ok, hcl.set hi, fun p hp => ?_, hgd.keep⟩ hq⟩
    rcases hwi p hp with h1 | h1 | ⟨k, h1, h2, h3⟩
    · exact .inl h1
    · exact .inr (.inl h1)
    · exact .inr (.inr ⟨k, h1, getD_keep h2, h3⟩)
  | yes =>
    rw [hg] at hq
    rw [if_pos (guard_yes hfr hg)]
    refine .inl (Oper.wp_mono ?_ (op_left hP hc hst.rep hfr hq))
    rintro a' w' ⟨v, H', E', rfl, hst', g2, g3, hq'⟩
    obtain ⟨ws', h1, h2, h3⟩ := keep_sat hq'
    have hgi := ready_get hi
    have hwi' : WInv F ops Γ ws' (listed.setIfInBounds i true) E' H'.length := by
      intro p hp
      rcases hwi p hp with h4 | ⟨x, hx, h4, h5⟩ | ⟨k, h4, h5, h6⟩
      · exact .inl h4
      · rcases h1 x hx with ⟨h6, _⟩ | h6
        · exact .inr (.inl ⟨x, h6, h4, h5.step hst'.agree hst'.len⟩)
        · refine .inr (.inr ⟨i, hF, hgi, ?_⟩)
          rw [← h4]
          simp only [List.contains_eq_mem, decide_eq_true_eq, List.mem_map] at h6
          obtain ⟨d, hd, h6⟩ := h6
          rw [← h6]
          exact chain_dep (List.all_eq_true.1 hds d hd)
      · exact .inr (.inr ⟨k, h4, getD_keep h5, h6⟩)
    have hgd' : Gd F ops Γ (listed.setIfInBounds i true) w' := by
      intro p hp hk'
      rcases hwi p hp with h4 | ⟨x, hx, h4, h5⟩ | ⟨k, h4, h5, h6⟩
      · exact h4 _
      · rcases h1 x hx with ⟨_, h6⟩ | h6
        · exact h5 E' H' w' hst'.agree hst'.len hst'.rep h6
        · exfalso
          refine hk' i hF hgi ?_
          rw [← h4]
          simp only [List.contains_eq_mem, decide_eq_true_eq, List.mem_map] at h6
          obtain ⟨d, hd, h6⟩ := h6
          rw [← h6]
          exact chain_dep (List.all_eq_true.1 hds d hd)
      · exact absurd h6 (hk' k h4 (getD_keep h5))
    exact ⟨hgd', hk ws' ⟨put σ.fr o.dst v, H'⟩ E' _ w' ⟨hst.trans hst' hst.len, hfr.left hst' g2 g3, hcl.set hi, hwi', hgd'⟩ h3⟩

theorem ord_sat (hP : Fine P) {E0 : Env} {H0 : Heap} {w0 : World} {R : St → Prop} {k : St → T α} (hc : ClOk P cl Q0) (hR : ∀ σ, (k σ).sat P Q0 → R σ) (hsel : Region.noSelect ops = true) {Fl : List Nat} :
    ∀ (c : Ct) (n : Nat) (listed : Array Bool) (ws : List Wa) (σ : St) (E : Env) (a : Act) (w : World) (Γ : List Wc), ordB ops Fl n listed c = true → At P ops (fun i => Fl.contains i) E0 H0 w0 Γ listed ws σ E a w →
      (regD P cl ops c ws σ k).sat P Q0 → wpAnyG P ops (RegQ E0 H0 w0 R) (fun i => Fl.contains i) Γ n listed a w := by
  intro c
  induction c with
  | done =>
    intro n listed ws σ E a w Γ ho hat hq
    have hr : Region.ready .any ops listed = [] := by cases n <;> simpa [ordB] using ho
    have hQ : RegQ E0 H0 w0 R .normal a w := ⟨σ, E, rfl, hat.step, hat.fr, hR _ hq⟩
    cases n with
    | zero => exact ⟨hr, hQ⟩
    | succ n => exact ⟨fun _ => hQ, by rw [hr]; simp⟩
  | take i c ih =>
    intro n listed ws σ E a w Γ ho hat hq
    cases n with
    | zero => simp [ordB] at ho
    | succ n =>
      simp only [ordB, Bool.and_eq_true] at ho
      obtain ⟨⟨⟨h1, h2⟩, h3⟩, h4⟩ := ho
      have hi : i ∈ Region.ready .any ops listed := by simpa using h3
      have hF : Fl.contains i = false := by simpa using h1
      obtain ⟨_, o, hoi, _⟩ := mem_ready.1 hi
      have hst := hat.step
      have hfr := hat.fr
      have hwi := hat.winv
      have hQp : ∀ (v : Value) c (a : Act) w, RegQ E0 H0 w0 R (.panic c) (a.put o.dst v) w → RegQ E0 H0 w0 R (.panic c) a w := by
        rintro v c a w ⟨_, _, h, _⟩; cases h
      -- the step, by what it yields
      have go : ∀ (v : AV) (S : World → Prop) (ws' : List Wa), (∀ x ∈ ws, x ∈ ws') → ((∀ w, S w) ∨ ∃ x ∈ ws', x.i = i ∧ HoldsW x E σ.H.length S) → YieldsIf P ops S o (v.conc E) a → S w → v.ref ≤ σ.H.length → v.ok E →
          (regD P cl ops c ws' ⟨put σ.fr o.dst v, σ.H⟩ k).sat P Q0 → wpAnyG P ops (RegQ E0 H0 w0 R) (fun i => Fl.contains i) Γ (n + 1) listed a w := by
        intro v S ws' hsub hS hy hSw g2 g3 hq'
        refine wpAnyG_first (S := S) hoi (Region.noSelect_spec hsel) (hQp _) hF n listed a w (Region.free_spec hoi h2) hi (fun k hk => hat.closed.free (ready_un hi) hk) hy hSw hat.gd ?_
        refine ih n _ ws' ⟨put σ.fr o.dst v, σ.H⟩ E _ w _ h4 ⟨hst, hfr.put _ _ g2 g3, hat.closed.set hi, ?_, ?_⟩ hq'
        · intro p hp
          rcases List.mem_cons.1 hp with rfl | hp
          · rcases hS with hS | hS
            · exact .inl hS
            · exact .inr (.inl hS)
          · rcases hwi p hp with h5 | ⟨x, hx, h5, h6⟩ | ⟨k, h5, h6, h7⟩
            · exact .inl h5
            · exact .inr (.inl ⟨x, hsub x hx, h5, h6⟩)
            · exact .inr (.inr ⟨k, h5, getD_keep h6, h7⟩)
        · intro p hp hk'
          rcases List.mem_cons.1 hp with rfl | hp
          · exact hSw
          · exact hat.gd.keep p hp hk'
      unfold regD at hq
      simp only [hoi] at hq
      cases hg : guardA ops σ.fr o.guard with
      | dyn b want => rw [hg] at hq; exact hq.elim
      | no =>
        rw [hg] at hq
        exact go undefA (fun _ => True) ws (fun _ h => h) (.inl fun _ => trivial) (.inr ⟨guard_no hfr hg, rfl⟩) trivial (Nat.zero_le _) undef_ok hq
      | yes =>
        rw [hg] at hq
        have hw := guard_yes hfr hg
        have pure : ∀ r, pureA P σ.fr o.op = r → (r.then fun v => regD P cl ops c ws ⟨put σ.fr o.dst v, σ.H⟩ k).sat P Q0 → wpAnyG P ops (RegQ E0 H0 w0 R) (fun i => Fl.contains i) Γ (n + 1) listed a w := by
          intro r hr hq
          obtain ⟨v, h5, h6⟩ := Ev.R.sat_then hq
          obtain ⟨g1, g2, g3⟩ := pure_gives hfr o v (by rw [hr]; exact h5)
          exact go v (fun _ => True) ws (fun _ h => h) (.inl fun _ => trivial) (.inl ⟨hw, fun w' _ => g1 w'⟩) trivial g2 g3 h6
        cases hp : pureA P σ.fr o.op with
        | v x => rw [hp] at hq; exact pure _ hp hq
        | b t => rw [hp] at hq; exact pure _ hp hq
        | need p r => rw [hp] at hq; exact pure _ hp hq
        | bad =>
          simp only [hp] at hq
          cases hr : readA P σ.fr o.op with
          | none => simp only [hr] at hq; exact hq.elim
          | «at» l r =>
            simp only [hr] at hq
            cases hl : σ.H[l]? with
            | none => rw [hl] at hq; exact hq.elim
            | some B =>
              rw [hl] at hq
              obtain ⟨v, h5, h6⟩ := Ev.R.sat_then hq
              obtain ⟨g1, g2, g3⟩ := read_gives hfr o hr h5 (hst.rep.rep l B hl) (hst.rep.ok l B hl)
              refine go v (fun w' => (execOp a.eval o).run P w' = .ok (.value (v.conc E)) w') (⟨i, l, B⟩ :: ws) (fun _ h => List.mem_cons_of_mem _ h) (.inr ⟨_, List.mem_cons_self, rfl, ?_⟩) (.inl ⟨hw, fun _ h => h⟩) g1 g2 g3 h6
              intro E' H' w' hE hn hrep hl'
              obtain ⟨g4, _, _⟩ := read_gives (hfr.agree hE hn) o hr h5 (hrep.rep l B hl') (hrep.ok l B hl')
              rw [g4, AV.conc_agree hE g2]
  | force i ds c ih =>
    intro n listed ws σ E a w Γ ho hat hq
    cases n with
    | zero => simp [ordB] at ho
    | succ n =>
      simp only [ordB, Bool.and_eq_true] at ho
      obtain ⟨⟨⟨h1, h2⟩, h3⟩, h4⟩ := ho
      have hr : Region.ready .any ops listed = [i] := by simpa using h2
      refine ⟨fun h => (by rw [hr] at h; cases h), fun j hj => ?_⟩
      have hji : j = i := by rw [hr] at hj; simpa using hj
      subst hji
      unfold regD at hq
      exact ord_force hP hat hc hj h1 h3 hq fun ws' σ' E' a' w' hat' hq' => ih n _ ws' σ' E' a' w' Γ h4 hat' hq'
  | two i di ci j dj cj ihi ihj =>
    intro n listed ws σ E a w Γ ho hat hq
    cases n with
    | zero => simp [ordB] at ho
    | succ n =>
      simp only [ordB, Bool.and_eq_true] at ho
      obtain ⟨⟨⟨⟨⟨⟨h1, h2⟩, h3⟩, h4⟩, h5⟩, h6⟩, h7⟩ := ho
      have hr : Region.ready .any ops listed = [i, j] := by simpa using h3
      unfold regD at hq
      refine ⟨fun h => (by rw [hr] at h; cases h), fun x hx => ?_⟩
      have hxx : x = i ∨ x = j := by rw [hr] at hx; simpa using hx
      rcases hxx with rfl | rfl
      · exact ord_force hP hat hc hx h1 h4 hq.1 fun ws' σ' E' a' w' hat' hq' => ihi n _ ws' σ' E' a' w' Γ h6 hat' hq'
      · exact ord_force hP hat hc hx h2 h5 hq.2 fun ws' σ' E' a' w' hat' hq' => ihj n _ ws' σ' E' a' w' Γ h7 hat' hq'

/-- A region that draws. -/
theorem regD_sat (hP : Fine P) {σ : St} {k : St → T α} (hc : ClOk P cl Q0) {id : Nat} {c : Ct} (hB : regB ops c = true) (h : HRep E σ.H w) (hf : FRep E σ.H.length σ.fr a) (hq : (regD P cl ops c [] σ k).sat P Q0) :
    (Code.region id ops true).wp P (RegQ E σ.H w fun σ' => (k σ').sat P Q0) a w := by
  simp only [regB, Bool.and_eq_true] at hB
  refine wp_region_any hP.mixed (wpAny_of_G (Γ := []) (F := fun i => c.forced.contains i) _ _ _ _ (ord_sat hP hc (fun _ h => h) hB.1 c _ _ [] σ E a _ [] hB.2 ⟨?_, hf, ?_, ?_, ?_⟩ hq))
  · exact ⟨.refl _ _, Nat.le_refl _, ⟨fun l B hl => (h.rep l B hl).kept fun _ => rfl, h.ok, h.inj, h.ro⟩, rfl, rfl, rfl, Nat.le_refl _, fun _ _ _ => rfl, fun _ _ h => h⟩
  · intro k hk
    simp [Array.getD] at hk
  · intro p hp; cases hp
  · intro p hp; cases hp

end
end Go.Proofs.Ythckkoledhjmeaa.Ev

/-
  The abstract evaluator: code and calls.
-/
namespace Go.Proofs.Ythckkoledhjmeaa.Ev
open Go

/-- Every region that draws has an order that stands. -/
def codeB (ord : Nat → Ct) : Code → Bool
  | .region id ops true => regB ops (ord id)
  | .seq a b => codeB ord a && codeB ord b
  | .cond _ a b => codeB ord a && codeB ord b
  | .block _ c => codeB ord c
  | .loop c => codeB ord c
  | _ => true

def CodeQ (n0 : Nat) (E : Env) (H : Heap) (w : World) (R : Exit → St → Prop) (e : Exit) (a' : Act) (w' : World) : Prop :=
  ∃ (σ' : St) (E' : Env), Step n0 E H w E' σ'.H w' ∧ FRep E' σ'.H.length σ'.fr a' ∧ R e σ'

section
variable {P : Program} {α : Type} {cl : Cl α} {Q0 : α → Prop}

theorem CodeQ.trans {n0 : Nat} {E E1 : Env} {H H1 : Heap} {w w1 : World} (h : Step n0 E H w E1 H1 w1) {R : Exit → St → Prop} {e : Exit} {a' : Act} {w' : World} (hq : CodeQ n0 E1 H1 w1 R e a' w') : CodeQ n0 E H w R e a' w' := by
  obtain ⟨σ', E', h1, h2, h3⟩ := hq
  exact ⟨σ', E', h.trans h1 (Nat.le_refl _), h2, h3⟩

theorem rounds_mono {c : Code} {Q Q' : Exit → Act → World → Prop} : ∀ (n : Nat) {a : Act} {w : World}, (∀ e a w, Q e a w → Q' e a w) → Code.rounds P c Q n a w → Code.rounds P c Q' n a w
  | 0, _, _, _, h => h
  | n + 1, a, w, hq, h => by
    rw [rounds_succ] at h ⊢
    refine wp_mono h fun e a' w' h' => ?_
    cases e with
    | normal => exact rounds_mono n hq h'
    | _ => exact hq _ _ _ h'

theorem code_sat (hP : Fine P) (hc : ClOk P cl Q0) {ord : Nat → Ct} {n0 un : Nat} :
    ∀ (c : Code) (E : Env) (σ : St) (a : Act) (w : World) (k : Exit → St → T α), codeB ord c = true → HRep E σ.H w → FRep E σ.H.length σ.fr a → n0 ≤ σ.H.length → (codeT P cl ord n0 un c σ k).sat P Q0 →
      c.wp P (CodeQ n0 E σ.H w fun e σ' => (k e σ').sat P Q0) a w := by
  intro c
  induction c with
  | skip => intro E σ a w k _ h hf hn hq; exact wp_skip ⟨σ, E, .refl h hn, hf, hq⟩
  | region id ops draw =>
    intro E σ a w k hB h hf hn hq
    cases draw with
    | true =>
      refine wp_mono (regD_sat hP hc hB h hf hq) ?_
      rintro e a' w' ⟨σ', E', rfl, h1, h2, h3⟩
      exact ⟨σ', E', h1.mono hn, h2, h3⟩
    | false =>
      refine wp_region_list (wpList_imp ?_ _ _ _ (reg_sat hP hc ops.toList h hf hq))
      rintro e a' w' ⟨σ', E', rfl, h1, h2, h3⟩
      exact ⟨σ', E', h1.mono hn, h2, h3⟩
  | seq x y ihx ihy =>
    intro E σ a w k hB h hf hn hq
    simp only [codeB, Bool.and_eq_true] at hB
    refine wp_seq (wp_mono (ihx E σ a w _ hB.1 h hf hn hq) ?_)
    rintro e a' w' ⟨σ', E', h1, h2, h3⟩
    cases e with
    | normal => exact wp_mono (ihy E' σ' a' w' _ hB.2 h1.rep h2 h1.len h3) fun _ _ _ hq => hq.trans h1
    | exit id => exact ⟨σ', E', h1, h2, h3⟩
    | goto l => exact ⟨σ', E', h1, h2, h3⟩
    | ret => exact ⟨σ', E', h1, h2, h3⟩
    | panic ch => exact ⟨σ', E', h1, h2, h3⟩
    | outgrown => exact ⟨σ', E', h1, h2, h3⟩
  | cond c x y ihx ihy =>
    intro E σ a w k hB h hf hn hq
    simp only [codeB, Bool.and_eq_true] at hB
    unfold codeT at hq
    split at hq
    · rename_i t ht
      have he : a.eval c = .bool t := by rw [hf.eval, ht]; rfl
      cases t with
      | true => exact wp_cond_true he (ihx E σ a w _ hB.1 h hf hn hq)
      | false => exact wp_cond_false he (ihy E σ a w _ hB.2 h hf hn hq)
    · rename_i t ht
      have he : a.eval c = .bool t := by rw [hf.eval, ht]; rfl
      cases t with
      | true => exact wp_cond_true he (ihx E σ a w _ hB.1 h hf hn (hq.1 rfl))
      | false => exact wp_cond_false he (ihy E σ a w _ hB.2 h hf hn (hq.2 rfl))
    · exact hq.elim
  | block id c ih =>
    intro E σ a w k hB h hf hn hq
    refine wp_block (wp_mono (ih E σ a w _ hB h hf hn hq) ?_)
    rintro e a' w' ⟨σ', E', h1, h2, h3⟩
    cases e with
    | exit j =>
      simp only [Exit.inBlock]
      simp only [] at h3
      split
      · rename_i hj; rw [if_pos hj] at h3; exact ⟨σ', E', h1, h2, h3⟩
      · rename_i hj; rw [if_neg hj] at h3; exact ⟨σ', E', h1, h2, h3⟩
    | normal => exact ⟨σ', E', h1, h2, h3⟩
    | goto l => exact ⟨σ', E', h1, h2, h3⟩
    | ret => exact ⟨σ', E', h1, h2, h3⟩
    | panic ch => exact ⟨σ', E', h1, h2, h3⟩
    | outgrown => exact ⟨σ', E', h1, h2, h3⟩
  | loop c ih =>
    intro E σ a w k hB h hf hn hq
    have rounds : ∀ (m : Nat) (E : Env) (σ : St) (a : Act) (w : World), HRep E σ.H w → FRep E σ.H.length σ.fr a → n0 ≤ σ.H.length → (loopT (fun σ k => codeT P cl ord n0 un c σ k) m σ k).sat P Q0 →
        Code.rounds P c (CodeQ n0 E σ.H w fun e σ' => (k e σ').sat P Q0) m a w := by
      intro m
      induction m with
      | zero => intro E σ a w h hf hn hq; exact hq.elim
      | succ m ihm =>
        intro E σ a w h hf hn hq
        rw [rounds_succ]
        refine wp_mono (ih E σ a w _ hB h hf hn hq) ?_
        rintro e a' w' ⟨σ', E', h1, h2, h3⟩
        cases e with
        | normal => exact rounds_mono m (fun _ _ _ hq => hq.trans h1) (ihm E' σ' a' w' h1.rep h2 h1.len h3)
        | exit id => exact ⟨σ', E', h1, h2, h3⟩
        | goto l => exact ⟨σ', E', h1, h2, h3⟩
        | ret => exact ⟨σ', E', h1, h2, h3⟩
        | panic ch => exact ⟨σ', E', h1, h2, h3⟩
        | outgrown => exact ⟨σ', E', h1, h2, h3⟩
    unfold codeT at hq
    cases un with
    | zero => exact hq E w a h hf hn
    | succ m => exact wp_loop_rounds (m + 1) (rounds (m + 1) E σ a w h hf hn hq)
  | exit id => intro E σ a w k _ h hf hn hq; exact wp_exit ⟨σ, E, .refl h hn, hf, hq⟩
  | ret => intro E σ a w k _ h hf hn hq; exact wp_ret ⟨σ, E, .refl h hn, hf, hq⟩
  | label l => intro E σ a w k _ h hf hn hq; exact wp_label ⟨σ, E, .refl h hn, hf, hq⟩
  | rangeFunc f ps as b => intro E σ a w k _ h hf hn hq; exact hq.elim
  | scope b => intro E σ a w k _ h hf hn hq; exact hq.elim
  | goto l => intro E σ a w k _ h hf hn hq; exact hq.elim
  | refuse why => intro E σ a w k _ h hf hn hq; exact hq.elim

/-! ### What a call hands back -/

theorem refsH_le {n : Nat} : ∀ {H : Heap}, refsH H ≤ n → ∀ B ∈ H, B.ref ≤ n
  | [], _, B, hB => by cases hB
  | C :: H, h, B, hB => by
    simp only [refsH, List.foldr_cons] at h
    rcases List.mem_cons.1 hB with rfl | hB
    · omega
    · exact refsH_le (H := H) (by simp only [refsH]; omega) B hB

theorem step_take {n0 m : Nat} {E E' : Env} {H H' : Heap} {w w' : World} (h : Step n0 E H w E' H' w') (hm : n0 ≤ m) (hr : refsH (H'.take m) ≤ m) : Step n0 E H w E' (H'.take m) w' := by
  have get : ∀ {l : Nat} {B : AB}, (H'.take m)[l]? = some B → H'[l]? = some B := by
    intro l B hl
    rw [List.getElem?_take] at hl
    split at hl
    · exact hl
    · cases hl
  have him : ∀ b, Im E' (H'.take m) b → Im E' H' b := fun b ⟨l, B, h1, h2, h3⟩ => ⟨l, B, get h1, h2, h3⟩
  refine ⟨h.agree, ?_, ⟨fun l B hl => h.rep.rep l B (get hl), fun l B hl => ?_, fun l l' B B' hl hl' => h.rep.inj l l' B B' (get hl) (get hl'), fun l k n g hl hn hi => h.rep.ro l k n g (get hl) hn (him _ hi)⟩, h.os, h.tape, h.output, h.size, h.frame, fun b hb hi => h.im b hb (him b hi)⟩
  · rw [List.length_take]; have := h.len; omega
  · have h1 := h.rep.ok l B (get hl)
    have h2 := refsH_le hr B (List.mem_of_getElem? hl)
    rw [List.length_take]
    cases B <;> try trivial
    rename_i ty cs
    exact ⟨by have := h1.1; simp only [AB.ref] at h2; omega, h1.2⟩

theorem step_trim {n0 : Nat} {E E' : Env} {H H' : Heap} {w w' : World} (h : Step n0 E H w E' H' w') {r : AV} (hr : r.ref ≤ H'.length) :
    Step n0 E H w E' (trim n0 r H') w' ∧ r.ref ≤ (trim n0 r H').length := by
  unfold trim
  simp only []
  split
  · rename_i hm
    exact ⟨step_take h (by omega) hm, by rw [List.length_take]; omega⟩
  · exact ⟨h, hr⟩

def resOne (tmps : Array Value) : ResultVar → Sem Value
  | .tmp t => pure (tmps.getD t undef)
  | .cell y t => do loadVar t (← asAddr (tmps.getD y undef))

theorem results_eq (fn : Func) (tmps : Array Value) : results fn tmps = (fn.results.mapM (resOne tmps) >>= fun vs => pure (if h : vs.size = 1 then vs[0] else .tuple vs) : Sem Value) := by
  unfold results
  congr 1

def resV (E : Env) : List EV → Value
  | [x] => x.conc E
  | vs => .tuple (vs.map (EV.conc E)).toArray

section
variable {E : Env} {σ : St} {w : World} {a : Act}

theorem run_resA (h : HRep E σ.H w) (hf : FRep E σ.H.length σ.fr a) {x : ResultVar} {v : AV} (hg : (resA P σ x).gives v) :
    (resOne a.tmps x).run P w = .ok (v.conc E) w ∧ v.ref ≤ σ.H.length ∧ v.ok E := by
  have ev : ∀ t, a.tmps.getD t undef = (opnd σ.fr (.tmp t)).conc E := fun t => by rw [← hf.eval]; rfl
  cases x with
  | tmp t =>
    simp only [resA, R.gives] at hg
    subst hg
    refine ⟨?_, hf.opnd_ref (.tmp t), hf.opnd_ok (.tmp t)⟩
    simp only [resOne, Sem.run_pure, ev]
    rfl
  | cell y t =>
    simp only [resA] at hg
    split at hg
    · rename_i l o hy
      split at hg
      · rename_i B hl
        obtain ⟨h1, h2, h3⟩ := load_run (P := P) (.inl ⟨o, rfl⟩) hg (h.rep l B hl) (h.ok l B hl)
        refine ⟨?_, h2, h3⟩
        have e1 : a.tmps.getD y undef = .pointer (some ⟨E.blk l, o, none⟩) := by
          rw [ev]
          show (σ.fr.getD y undefA).conc E = _
          rw [hy]
          rfl
        simp only [SV.conc, Instr.loadAt, Instr.sureAddr, Sem.run_bind, Sem.run_pure, Result.andThen_ok] at h1
        simp only [resOne, e1, asAddr, Sem.run_bind, Sem.run_pure, Result.andThen_ok, h1]
      · cases hg
    · cases hg

theorem res_sat (h : HRep E σ.H w) (hf : FRep E σ.H.length σ.fr a) {β : Type} {Q : β → Prop} : ∀ {rs : List ResultVar} {k : List EV → T β}, (resT P σ rs k).sat P Q →
    ∃ vs : List EV, (rs.mapM (resOne a.tmps)).run P w = .ok (vs.map (EV.conc E)) w ∧
      (∀ v ∈ vs, v.ref ≤ σ.H.length ∧ (AV.e v).ok E) ∧ (k vs).sat P Q
  | [], k, hq => ⟨[], rfl, by simp, hq⟩
  | x :: rs, k, hq => by
    unfold resT at hq
    obtain ⟨v, hv, hq⟩ := R.sat_then hq
    obtain ⟨h1, h2, h3⟩ := run_resA h hf hv
    cases v with
    | tup vs => exact hq.elim
    | e y =>
      obtain ⟨vs, h4, h5, h6⟩ := res_sat h hf (rs := rs) hq
      refine ⟨y :: vs, ?_, ?_, h6⟩
      · rw [List.mapM_cons]
        simp only [Sem.run_bind, h1, Result.andThen_ok, h4, Sem.run_pure, List.map_cons]
        rfl
      · intro v hv
        rcases List.mem_cons.1 hv with rfl | hv
        · exact ⟨h2, h3⟩
        · exact h5 v hv

theorem ret_sat (hfn : Func) {n0 : Nat} {E0 : Env} {H0 : Heap} {w0 : World} (hst : Step n0 E0 H0 w0 E σ.H w) (hf : FRep E σ.H.length σ.fr a) {β : Type} {Q : β → Prop} {k : AV → Heap → T β} (hq : (retT P hfn n0 σ k).sat P Q) :
    ∃ (r : AV) (H' : Heap), (results hfn a.tmps).run P w = .ok (r.conc E) w ∧ Step n0 E0 H0 w0 E H' w ∧ r.ref ≤ H'.length ∧ r.ok E ∧ (k r H').sat P Q := by
  unfold retT at hq
  obtain ⟨vs, h1, h2, h3⟩ := res_sat hst.rep hf hq
  have hrun : (results hfn a.tmps).run P w = .ok (resV E vs) w := by
    rw [results_eq, Array.mapM_eq_mapM_toList]
    simp only [resV, Sem.run_bind, Sem.run_map, h1, Result.andThen_ok, Sem.run_pure]
    cases vs with
    | nil => rfl
    | cons x xs => cases xs with
      | nil => rfl
      | cons y ys => simp
  cases vs with
  | nil =>
    obtain ⟨t1, t2⟩ := step_trim (r := .tup []) hst (Nat.zero_le _)
    exact ⟨.tup [], _, hrun, t1, t2, undef_ok, h3⟩
  | cons x xs => cases xs with
    | nil =>
      obtain ⟨t1, t2⟩ := step_trim (r := .e x) hst (h2 x (by simp)).1
      exact ⟨.e x, _, hrun, t1, t2, (h2 x (by simp)).2, h3⟩
    | cons y ys =>
      have hr : (AV.tup (x :: y :: ys)).ref ≤ σ.H.length := tup_ref.2 fun z hz => (h2 z hz).1
      obtain ⟨t1, t2⟩ := step_trim (r := .tup (x :: y :: ys)) hst hr
      refine ⟨.tup (x :: y :: ys), _, hrun, t1, t2, ?_, h3⟩
      intro z hz
      simp only [AV.svs, List.mem_flatMap] at hz
      obtain ⟨v, hv, hz⟩ := hz
      exact (h2 v hv).2 z hz

end

/-! ### Calls -/

structure EntOk (P : Program) (ent : Nat → Ent) : Prop where
  summ : ∀ f g, ent f = .summ g → ∀ args H Q, (g args H).sat P Q → CallsA P f args H fun r H' => Q (r, H')
  body : ∀ (f : Nat) ord un (fn : Func) (c : Code), ent f = .body ord un → P.funcs[f]? = some fn → fn.body = some c → codeB ord c = true

theorem call_sat (hP : Fine P) {ent : Nat → Ent} (hE : EntOk P ent) : ∀ m, ClOk P (callT (α := α) P ent m) Q0
  | 0, f, args, H, k, hq => hq
  | m + 1, f, args, H, k, hq => by
    unfold callT at hq
    split at hq
    · exact hq
    · rename_i g hg
      exact (hE.summ f g hg args H _ (T.sat_bind hq)).mono fun _ _ h => h
    · rename_i ord un hg
      split at hq
      · rename_i fn hfn
        split at hq
        · rename_i c hc
          intro E w h hargs
          have hB := hE.body f ord un fn c hg hfn hc
          refine calls_of_wp hfn hc (wp_mono (code_sat hP (call_sat hP hE m) c E ⟨args ++ List.replicate (fn.ntmps - args.length) undefA, H⟩ _ w _ hB h ⟨?_, ?_, ?_, rfl⟩ (Nat.le_refl _) hq) ?_)
          · simp [AV.conc, undef]
          · intro x hx
            rcases List.mem_append.1 hx with hx | hx
            · exact (hargs x hx).1
            · rw [List.eq_of_mem_replicate hx]; exact Nat.zero_le _
          · intro x hx
            rcases List.mem_append.1 hx with hx | hx
            · exact (hargs x hx).2
            · rw [List.eq_of_mem_replicate hx]; exact undef_ok
          · rintro e a' w' ⟨σ', E', h1, h2, h3⟩
            cases e with
            | normal =>
              obtain ⟨r, H', g1, g2, g3, g4, g5⟩ := ret_sat fn h1 h2 h3
              exact ⟨h2.defers, _, g1, r, H', E', rfl, g2, g3, g4, g5⟩
            | ret =>
              obtain ⟨r, H', g1, g2, g3, g4, g5⟩ := ret_sat fn h1 h2 h3
              exact ⟨h2.defers, _, g1, r, H', E', rfl, g2, g3, g4, g5⟩
            | exit id => exact h3.elim
            | goto l => exact h3.elim
            | panic ch => exact h3.elim
            | outgrown => exact h3.elim
        · exact hq.elim
      · exact hq.elim

end
end Go.Proofs.Ythckkoledhjmeaa.Ev
