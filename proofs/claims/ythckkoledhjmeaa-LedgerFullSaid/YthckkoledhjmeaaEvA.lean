/-
  An abstract evaluator for Go code: its data and its functions. Cells whose values are pure data are told by their Go values; places in memory by numbers of abstract blocks.
-/
import Derived.WalkKit
namespace Go.Proofs.Ythckkoledhjmeaa.Ev
open Go

/-- One cell: a value that is known (c), pure data (d), a pointer into a block (ptr) or into a row (rp), a slice of a row (sl), a map (mp), a function with captured places (fn). -/
inductive SV where
  | c (v : Value)
  | d (v : Value)
  | ptr (l o : Nat)
  | rp (l k i o : Nat)
  | sl (l k i n z : Nat)
  | mp (l : Nat)
  | fn (f : Nat) (caps : List (Nat × Nat))

inductive EV where
  | s (x : SV)
  | agg (cs : List SV)

inductive AV where
  | e (x : EV)
  | tup (vs : List EV)

/-- A packet. -/
structure Pkt where
  seq : Int
  mi : Int
  size : Int
  sent : Int

/-- A block: cells of a variable; a row (its element type, cells an element, how many, which); a row that is written out; a row that is only read; a map of packets by their numbers; gone. -/
inductive AB where
  | cells (ty : Nat) (cs : List SV)
  | row (ty k n : Nat) (g : Nat → List Value)
  | lit (ty k : Nat) (chunks : List (List Value))
  | ro (k n : Nat) (g : Nat → List Value)
  | pm (es : List Pkt)
  | dead

abbrev Heap := List AB

structure St where
  fr : List AV
  H : Heap

/-! ### What an operation without memory gives -/

inductive R where
  | v (x : AV)
  | b (t : Bool)
  | need (p : Prop) (r : R)
  | bad

@[reducible] def undefA : AV := .tup []
@[reducible] def AV.c (v : Value) : AV := .e (.s (.c v))
@[reducible] def AV.d (v : Value) : AV := .e (.s (.d v))

def opnd (fr : List AV) : Operand → AV
  | .tmp t => fr.getD t undefA
  | .const v => .c v
  | .global g => .c (.pointer (some ⟨g, 0, none⟩))
  | .func f => .e (.s (.fn f []))

def put (fr : List AV) (dst : Option Tmp) (v : AV) : List AV :=
  match dst with
  | some d => fr.set d v
  | none => fr

def SV.one : SV → Bool
  | .c v | .d v => v.oneCell'
  | _ => true

/-- The cells of a value. -/
def AV.cells : AV → Option (List SV)
  | .e (.s x) => if x.one then some [x] else none
  | .e (.agg cs) => some cs
  | .tup _ => none

def zeroOf (P : Program) (t : TypeId) : Option (List SV) :=
  ((P.info? t).bind (·.zero)).map fun v => v.cells.toList.map SV.c

def sizeOfT (P : Program) (t : TypeId) : Option Nat := (P.info? t).map (·.size)

def aggT (P : Program) (t : TypeId) : Option Bool :=
  match P.underlying t with
  | some (.struct _) | some (.array _ _) => some true
  | some _ => some false
  | none => none

/-- A field's place, if it has cells. -/
def fieldOff (P : Program) (s : TypeId) (f : Nat) : Option (Nat × TypeId) :=
  match P.underlying s with
  | some (.struct fs) => match fs[f]? with
    | some x => match sizeOfT P x.type with
      | some (_ + 1) => some (x.offset, x.type)
      | _ => none
    | none => none
  | _ => none

def elemT (P : Program) (t : TypeId) : Option TypeId :=
  match P.underlying t with
  | some (.slice e) => some e
  | _ => none

/-- Parts put into cells, at their places. -/
def fillA (place : Nat → Option (Nat × Nat)) (cells : List SV) : List (Nat × AV) → Option (List SV)
  | [] => some cells
  | (i, v) :: rest =>
    match place i, v.cells with
    | some (off, size), some cs =>
      if cs.length = size ∧ off + size ≤ cells.length then fillA place (cells.take off ++ cs ++ cells.drop (off + size)) rest else none
    | _, _ => none

def placesOf (P : Program) (fs : List Field) : Option (List (Nat × Nat)) := fs.mapM fun f => (sizeOfT P f.type).map fun n => (f.offset, n)

def intOp (op : BinOp) (k : IntKind) (mk : Value → SV) (x y : Int) : R :=
  match op with
  | .add => .v (.e (.s (mk (.int k (k.wrap (x + y))))))
  | .sub => .v (.e (.s (mk (.int k (k.wrap (x - y))))))
  | .mul => .v (.e (.s (mk (.int k (k.wrap (x * y))))))
  | .quo => .need (y ≠ 0) (.v (.e (.s (mk (.int k (k.wrap (x.tdiv y)))))))
  | .rem => .need (y ≠ 0) (.v (.e (.s (mk (.int k (x.tmod y))))))
  | _ => .bad

def cmpOp (op : BinOp) (x y : Int) : Option Bool :=
  match op with
  | .eql => some (x == y)
  | .neq => some (x != y)
  | .lss => some (decide (x < y))
  | .leq => some (decide (x ≤ y))
  | .gtr => some (decide (x > y))
  | .geq => some (decide (x ≥ y))
  | _ => none

def int2 (op : BinOp) (st : Bool) (k k' : IntKind) (x y : Int) : R :=
  if k = k' then
    match cmpOp op x y with
    | some t => if st then .v (.c (.bool t)) else .b t
    | none => intOp op k (if st then SV.c else SV.d) x y
  else .bad

def SV.num : SV → Option (IntKind × Int)
  | .c (.int k n) | .d (.int k n) => some (k, n)
  | _ => none

/-- Are all cells whole numbers, and these? -/
def eqCells : List SV → List SV → Option Bool
  | [], [] => some true
  | x :: xs, y :: ys =>
    match x.num, y.num with
    | some (k, a), some (k', b) => if k = k' then (eqCells xs ys).map fun r => a == b && r else none
    | _, _ => none
  | _, _ => none

def intT (P : Program) (t : TypeId) : Bool := match P.underlying t with | some (.int _) => true | _ => false

def flatFields (P : Program) : List Field → Nat → Bool
  | [], _ => true
  | f :: fs, i => f.name != "_" && f.offset == i && intT P f.type && flatFields P fs (i + 1)

/-- A struct type of so many fields, all of them whole numbers. -/
def flatT (P : Program) (t : TypeId) (n : Nat) : Bool :=
  match P.underlying t with
  | some (.struct fs) => fs.toList.length == n && flatFields P fs.toList 0 && !P.eqGuardType P.depth t && !P.stoodInHeld t
  | _ => false

def eqOp (P : Program) (t : TypeId) (neg : Bool) (x y : AV) : R :=
  match x, y with
  | .e (.s (.c (.bool a))), .e (.s (.c (.bool b))) => if (match P.underlying t with | some .bool => true | _ => false) then .v (.c (.bool (if neg then !(a == b) else a == b))) else .bad
  | .e (.s (.ptr _ _)), .e (.s (.c (.pointer none))) => if (match P.underlying t with | some (.pointer _) => true | _ => false) then .v (.c (.bool neg)) else .bad
  | .e (.s (.c (.pointer none))), .e (.s (.c (.pointer none))) => if (match P.underlying t with | some (.pointer _) => true | _ => false) then .v (.c (.bool !neg)) else .bad
  | .e (.agg xs), .e (.agg ys) =>
    if flatT P t xs.length then
      match eqCells xs ys with
      | some r => .b (if neg then !r else r)
      | none => .bad
    else .bad
  | _, _ => .bad

def binA (P : Program) (op : BinOp) (t : TypeId) (x y : AV) : R :=
  match x, y with
  | .e (.s (.c (.int k a))), .e (.s (.c (.int k' b))) => int2 op true k k' a b
  | .e (.s (.c (.int k a))), .e (.s (.d (.int k' b))) => int2 op false k k' a b
  | .e (.s (.d (.int k a))), .e (.s (.c (.int k' b))) => int2 op false k k' a b
  | .e (.s (.d (.int k a))), .e (.s (.d (.int k' b))) => int2 op false k k' a b
  | x, y => match op with
    | .eql => eqOp P t false x y
    | .neq => eqOp P t true x y
    | _ => .bad

def asInt : AV → Option Int
  | .e (.s (.c (.int _ n))) | .e (.s (.d (.int _ n))) => some n
  | _ => none

def sliceA (l k i n z : Nat) (lo hi : Int) : R :=
  .need (0 ≤ lo ∧ lo ≤ hi ∧ hi ≤ n) (.v (.e (.s (.sl l k (i + lo.toNat) (hi.toNat - lo.toNat) (if lo = 0 then z else i)))))

def capsOf : List AV → Option (List (Nat × Nat))
  | [] => some []
  | .e (.s (.ptr l o)) :: r => (capsOf r).map ((l, o) :: ·)
  | _ => none

def maxA (gt : Bool) (x y : AV) : R :=
  match x, y with
  | .e (.s (.c (.int k a))), .e (.s (.c (.int _ b))) | .e (.s (.c (.int k a))), .e (.s (.d (.int _ b)))
  | .e (.s (.d (.int k a))), .e (.s (.c (.int _ b))) | .e (.s (.d (.int k a))), .e (.s (.d (.int _ b))) => .v (.d (.int k (if gt then (if b > a then b else a) else (if b < a then b else a))))
  | _, _ => .bad

/-- An operation that neither reads nor writes memory. -/
def pureA (P : Program) (fr : List AV) : Op → R
  | .move x | .assign x => .v (opnd fr x)
  | .pick c a b => match opnd fr c with
    | .e (.s (.c (.bool t))) => .v (if t then opnd fr a else opnd fr b)
    | _ => .bad
  | .build t parts => match P.underlying t, zeroOf P t with
    | some (.struct fs), some z => match placesOf P fs.toList with
      | some ps => match fillA (ps[·]?) z (parts.toList.map fun (i, x) => (i, opnd fr x)) with
        | some cs => .v (.e (.agg cs))
        | none => .bad
      | none => .bad
    | _, _ => .bad
  | .nilCheck x => match opnd fr x with
    | .e (.s (.ptr l o)) => .v (.e (.s (.ptr l o)))
    | .e (.s (.rp l k i o)) => .v (.e (.s (.rp l k i o)))
    | _ => .bad
  | .binOp op t x y _ => binA P op t (opnd fr x) (opnd fr y)
  | .unOp .not _ x => match opnd fr x with
    | .e (.s (.c (.bool t))) => .v (.c (.bool !t))
    | _ => .bad
  | .convert src dst x => match P.underlying src, P.underlying dst, opnd fr x with
    | some (.int _), some (.int k), .e (.s (.c (.int _ n))) => .v (.c (.int k (k.wrap n)))
    | some (.int _), some (.int k), .e (.s (.d (.int _ n))) => .v (.d (.int k (k.wrap n)))
    | _, _, _ => .bad
  | .makeFunc (.func f) first captured => match first.toList, capsOf (captured.toList.map (opnd fr)) with
    | [], some cs => .v (.e (.s (.fn f cs)))
    | _, _ => .bad
  | .slice t x lo hi none => match elemT P t, opnd fr x with
    | some e, .e (.s (.sl l k i n z)) => if sizeOfT P e = some k then match lo.map fun y => asInt (opnd fr y), hi.map fun y => asInt (opnd fr y) with
      | none, none => sliceA l k i n z 0 n
      | some (some a), none => sliceA l k i n z a n
      | none, some (some b) => sliceA l k i n z 0 b
      | some (some a), some (some b) => sliceA l k i n z a b
      | _, _ => .bad
      else .bad
    | _, _ => .bad
  | .fieldAddr s x f => match fieldOff P s f, opnd fr x with
    | some (off, _), .e (.s (.ptr l o)) => .v (.e (.s (.ptr l (o + off))))
    | some (off, _), .e (.s (.rp l k i o)) => .v (.e (.s (.rp l k i (o + off))))
    | _, _ => .bad
  | .field s x f => match fieldOff P s f, opnd fr x with
    | some (off, ft), .e (.agg cs) => match aggT P ft, sizeOfT P ft with
      | some true, some n => if off + n ≤ cs.length then .v (.e (.agg ((cs.drop off).take n))) else .bad
      | some false, _ => match cs[off]? with
        | some v => .v (.e (.s v))
        | none => .bad
      | _, _ => .bad
    | _, _ => .bad
  | .indexAddr t x ix => match elemT P t, opnd fr x, asInt (opnd fr ix) with
    | some e, .e (.s (.sl l k i n _)), some j => if sizeOfT P e = some k then .need (0 ≤ j ∧ j < n) (.v (.e (.s (.rp l k (i + j.toNat) 0)))) else .bad
    | _, _, _ => .bad
  | .extract x i => match opnd fr x with
    | .tup vs => match vs[i]? with
      | some v => .v (.e v)
      | none => .bad
    | _ => .bad
  | .call { callee := .builtin .len, args, argTypes } => match args.toList.map (opnd fr), argTypes.toList with
    | [.e (.s (.sl _ _ _ n _))], [t] => if (elemT P t).isSome then .v (.d (.int .i64 n)) else .bad
    | [.e (.s (.c (.slice none 0 0)))], [t] => if (elemT P t).isSome then .v (.c (.int .i64 0)) else .bad
    | _, _ => .bad
  | .call { callee := .builtin .max, args, .. } => match args.toList.map (opnd fr) with
    | [x, y] => maxA true x y
    | _ => .bad
  | .call { callee := .builtin .min, args, .. } => match args.toList.map (opnd fr) with
    | [x, y] => maxA false x y
    | _ => .bad
  | _ => .bad

/-! ### What an operation that reads memory gives: the block that it reads, and its value by what lies there -/

def rowLoad (P : Program) (t : TypeId) (n : Nat) (g : Nat → List Value) (k i o : Nat) : R :=
  match aggT P t, sizeOfT P t with
  | some true, some s => if o + s ≤ k then .need (i < n) (.v (.e (.agg ((((g i).map SV.d).drop o).take s)))) else .bad
  | some false, some _ => if o < k then .need (i < n) (match ((g i).map SV.d)[o]? with | some (.d (.bool t)) => .b t | some v => .v (.e (.s v)) | none => .bad) else .bad
  | _, _ => .bad

def litLoad (P : Program) (t : TypeId) (chunks : List (List Value)) (k i o : Nat) : R := rowLoad P t chunks.length (fun j => chunks.getD j []) k i o

def loadA (P : Program) (t : TypeId) (x : SV) (B : AB) : R :=
  match x, B with
  | .ptr _ o, .cells _ cs => match aggT P t, sizeOfT P t with
    | some true, some s => if o + s ≤ cs.length then .v (.e (.agg ((cs.drop o).take s))) else .bad
    | some false, some _ => match cs[o]? with
      | some (.d (.bool t)) => .b t
      | some v => .v (.e (.s v))
      | none => .bad
    | _, _ => .bad
  | .rp _ k' i o, .row _ k n g => if k' = k then rowLoad P t n g k i o else .bad
  | .rp _ k' i o, .ro k n g => if k' = k then rowLoad P t n g k i o else .bad
  | .rp _ k' i o, .lit _ k ch => if k' = k then litLoad P t ch k i o else .bad
  | _, _ => .bad

def Pkt.vals (p : Pkt) : List Value := [.int .u64 p.seq, .int .i64 p.mi, .int .i64 p.size, .int .i64 p.sent]
def Pkt.cells (p : Pkt) : List SV := [.d (.int .u64 p.seq), .d (.int .i64 p.mi), .d (.int .i64 p.size), .d (.int .i64 p.sent)]
def Pkt.zero : Pkt := ⟨0, 0, 0, 0⟩
def hasP (es : List Pkt) (s : Int) : Bool := es.any fun p => s == p.seq
def findP (es : List Pkt) (s : Int) : Pkt := (es.find? fun p => s == p.seq).getD Pkt.zero
def delP (es : List Pkt) (s : Int) : List Pkt := es.eraseP fun p => s == p.seq

/-- Is it the map from numbers of 64 bits to packets? -/
def pktMapT (P : Program) (t : TypeId) : Bool :=
  match P.underlying t with
  | some (.map k e) => (match P.underlying k with | some (.int .u64) => true | _ => false) && (match (P.info? e).bind (·.zero) with | some (.agg cs) => (match cs.toList with | [.int .u64 0, .int .i64 0, .int .i64 0, .int .i64 0] => true | _ => false) | _ => false)
  | _ => false

/-- Which block it reads. -/
def locOf : AV → Option Nat
  | .e (.s (.ptr l _)) | .e (.s (.rp l _ _ _)) | .e (.s (.mp l)) => some l
  | _ => none

inductive Rd where
  | none
  | at (l : Nat) (r : AB → R)

def readA (P : Program) (fr : List AV) : Op → Rd
  | .load t x => match opnd fr x with
    | .e (.s (.ptr l o)) => .at l (loadA P t (.ptr l o))
    | .e (.s (.rp l k i o)) => .at l (loadA P t (.rp l k i o))
    | _ => .none
  | .call { callee := .builtin .len, args, argTypes } => match args.toList.map (opnd fr), argTypes.toList with
    | [.e (.s (.mp l))], [t] => if pktMapT P t then .at l fun | .pm es => .v (.d (.int .i64 es.length)) | _ => .bad else .none
    | _, _ => .none
  | _ => .none

/-! ### Trees of decisions -/

inductive T (α : Type) where
  | ret (a : α)
  | ite (b : Bool) (t e : T α)
  | need (p : Prop) (t : T α)
  | both (t e : T α)
  | call (f : Nat) (args : List AV) (H : Heap) (k : AV → Heap → T α)
  | code (n0 : Nat) (c : Code) (σ : St) (k : Exit → St → T α)
  | fail

def T.bind {α β : Type} : T α → (α → T β) → T β
  | .ret a, f => f a
  | .ite b t e, f => .ite b (t.bind f) (e.bind f)
  | .need p t, f => .need p (t.bind f)
  | .both t e, f => .both (t.bind f) (e.bind f)
  | .call g args H k, f => .call g args H fun r H' => (k r H').bind f
  | .code n0 c σ k, f => .code n0 c σ fun e σ' => (k e σ').bind f
  | .fail, _ => .fail

def R.then {α : Type} (k : AV → T α) : R → T α
  | .v x => k x
  | .b t => .ite t (k (.c (.bool true))) (k (.c (.bool false)))
  | .need p r => .need p (r.then k)
  | .bad => .fail

/-! ### Operations that turn memory -/

def SV.val : SV → Option Value
  | .c v | .d v => if v.oneCell' then some v else none
  | _ => none

def vals : List SV → Option (List Value)
  | [] => some []
  | x :: xs => match x.val, vals xs with
    | some v, some vs => some (v :: vs)
    | _, _ => none

def chunksOf (k : Nat) : Nat → List Value → List (List Value)
  | 0, _ => []
  | n + 1, vs => vs.take k :: chunksOf k n (vs.drop k)

def spliceG (g : Nat → List Value) (i o : Nat) (vs : List Value) : Nat → List Value :=
  fun j => if j = i then (g i).take o ++ vs ++ (g i).drop (o + vs.length) else g j

def appendG (g : Nat → List Value) (i n : Nat) (g2 : Nat → List Value) (i2 : Nat) : Nat → List Value :=
  fun j => if j < n then g (i + j) else g2 (i2 + (j - n))

/-- A row: its element's cells, how many, which. -/
def rowOf (H : Heap) (l : Nat) : Option (Nat × Nat × (Nat → List Value)) :=
  match H[l]? with
  | some (.row _ k n g) => some (k, n, g)
  | some (.ro k n g) => some (k, n, g)
  | some (.lit _ k ch) => some (k, ch.length, fun j => ch.getD j [])
  | _ => none

/-- A row of the call's own. -/
def ownRow (H : Heap) (l : Nat) : Option (Nat × Nat × Nat × (Nat → List Value)) :=
  match H[l]? with
  | some (.row ty k n g) => some (ty, k, n, g)
  | some (.lit ty k ch) => some (ty, k, ch.length, fun j => ch.getD j [])
  | _ => none

/-- How many elements a row may have. -/
def most : Nat := 1000000

def fitE (P : Program) (e k : Nat) : Bool :=
  match P.info? e with
  | some i => i.size == k && decide (i.bytes ≤ 1000) && (match i.zero with | some z => z.cells.size == k | none => false)
  | none => false

def effA (P : Program) (fr : List AV) (H : Heap) : Op → T (AV × Heap)
  | .alloc t => match zeroOf P t with
    | some z => if z.all SV.one then .ret (.e (.s (.ptr H.length 0)), H ++ [.cells t z]) else .fail
    | none => .fail
  | .box t x => match (opnd fr x).cells with
    | some cs => if cs.all SV.one then .ret (.e (.s (.ptr H.length 0)), H ++ [.cells t cs]) else .fail
    | none => .fail
  | .buildSlice t n parts => match elemT P t with
    | some e => match sizeOfT P e, zeroOf P e with
      | some (k + 1), some z => if z.length = k + 1 ∧ n * (k + 1) ≤ 1000 then
          match fillA (fun i => some (i * (k + 1), k + 1)) (List.replicate n z).flatten (parts.toList.map fun (i, x) => (i, opnd fr x)) with
          | some cs => match vals cs with
            | some vs => .ret (.e (.s (.sl H.length (k + 1) 0 n 0)), H ++ [.lit e (k + 1) (chunksOf (k + 1) n vs)])
            | none => .fail
          | none => .fail
        else .fail
      | _, _ => .fail
    | none => .fail
  | .store t a x => match opnd fr a, (opnd fr x).cells, sizeOfT P t with
    | .e (.s (.ptr l o)), some cs, some s => match H[l]? with
      | some (.cells ty ds) => if cs.length = s ∧ o + s ≤ ds.length ∧ cs.all SV.one then .ret (undefA, H.set l (.cells ty (ds.take o ++ cs ++ ds.drop (o + s)))) else .fail
      | _ => .fail
    | .e (.s (.rp l k' i o)), some cs, some s => match H[l]?, vals cs with
      | some (.row ty k n g), some vs => if k' = k ∧ vs.length = s ∧ o + s ≤ k then .need (i < n) (.ret (undefA, H.set l (.row ty k n (spliceG g i o vs)))) else .fail
      | _, _ => .fail
    | _, _, _ => .fail
  | .makeMap t none => if pktMapT P t then .ret (.e (.s (.mp H.length)), H ++ [.pm []]) else .fail
  | .mapUpdate t m key x => match opnd fr m, opnd fr key, opnd fr x with
    | .e (.s (.mp l)), .e (.s (.d (.int .u64 s))), .e (.agg cs) => match H[l]?, vals cs with
      | some (.pm es), some [.int .u64 a, .int .i64 b, .int .i64 c, .int .i64 d] => if pktMapT P t then .need (s = a ∧ hasP es a = false) (.ret (undefA, H.set l (.pm (es ++ [⟨a, b, c, d⟩])))) else .fail
      | _, _ => .fail
    | _, _, _ => .fail
  | .lookup t m key true => match opnd fr m, opnd fr key with
    | .e (.s (.mp l)), .e (.s (.d (.int .u64 s))) => match H[l]? with
      | some (.pm es) => if pktMapT P t then .ite (hasP es s) (.ret (.tup [.agg (findP es s).cells, .s (.c (.bool true))], H)) (.ret (.tup [.agg Pkt.zero.cells, .s (.c (.bool false))], H)) else .fail
      | _ => .fail
    | _, _ => .fail
  | .call { callee := .builtin .delete, args, argTypes } => match args.toList.map (opnd fr), argTypes.toList with
    | [.e (.s (.mp l)), .e (.s (.d (.int .u64 s)))], t :: _ => match H[l]? with
      | some (.pm es) => if pktMapT P t then .ret (.tup [], H.set l (.pm (delP es s))) else .fail
      | _ => .fail
    | _, _ => .fail
  | .call { callee := .builtin .append, args, argTypes } => match args.toList.map (opnd fr), argTypes.toList with
    | [.e (.s (.sl l k0 i n _)), .e (.s (.sl l2 k02 i2 m _))], [t, t'] => match ownRow H l, rowOf H l2, elemT P t with
      | some (ty, k, N, g), some (k2, N2, g2), some e => if t = t' ∧ l ≠ l2 ∧ k = k2 ∧ k0 = k ∧ k02 = k ∧ e = ty ∧ fitE P e k = true then
          .need (i + n ≤ N ∧ i2 + m ≤ N2 ∧ n + m ≤ most) (.ret (.e (.s (.sl H.length k 0 (n + m) 0)), H.set l .dead ++ [.row ty k (n + m) (appendG g i n g2 i2)])) else .fail
      | _, _, _ => .fail
    | [.e (.s (.c (.slice none 0 0))), .e (.s (.sl l2 k02 i2 m _))], [t, t'] => match rowOf H l2, elemT P t with
      | some (k2, N2, g2), some e => if t = t' ∧ k02 = k2 ∧ 0 < k2 ∧ fitE P e k2 = true then
          .need (i2 + m ≤ N2 ∧ m ≤ most) (.ret (.e (.s (.sl H.length k2 0 m 0)), H ++ [.row e k2 m (fun j => g2 (i2 + j))])) else .fail
      | _, _ => .fail
    | _, _ => .fail
  | _ => .fail

/-! ### Regions, code, calls -/

inductive G where
  | yes
  | no
  | dyn (b want : Bool)

def guardA (ops : Array Oper) (fr : List AV) : Option (Nat × Bool) → G
  | none => .yes
  | some (j, want) => match (ops[j]?).bind (·.dst) with
    | none => .no
    | some d => match fr[d]? with
      | some (.e (.s (.c (.bool b)))) => if b = want then .yes else .no
      | some (.e (.s (.d (.bool b)))) => .dyn b want
      | _ => .no

abbrev Cl (α : Type) := Nat → List AV → Heap → (AV → Heap → T α) → T α

def hasBody (P : Program) (f : Nat) : Bool := ((P.funcs[f]?).bind (·.body)).isSome

def opT {α : Type} (P : Program) (cl : Cl α) (o : Oper) (fr : List AV) (H : Heap) (k : AV → Heap → T α) : T α :=
  match pureA P fr o.op with
  | .bad => match readA P fr o.op with
    | .at l r => match H[l]? with
      | some B => (r B).then fun v => k v H
      | none => .fail
    | .none => match o.op with
      | .call { callee := .value f, args, .. } => match opnd fr f with
        | .e (.s (.fn f caps)) => match hasBody P f with
          | true => cl f (args.toList.map (opnd fr) ++ caps.map fun p => .e (.s (.ptr p.1 p.2))) H k
          | false => .fail
        | _ => .fail
      | op => (effA P fr H op).bind fun x => k x.1 x.2
  | r => r.then fun v => k v H

def regT {α : Type} (P : Program) (cl : Cl α) (ops : Array Oper) : List Oper → St → (St → T α) → T α
  | [], σ, k => k σ
  | o :: rest, σ, k => match guardA ops σ.fr o.guard with
    | .yes => opT P cl o σ.fr σ.H fun v H' => regT P cl ops rest ⟨put σ.fr o.dst v, H'⟩ k
    | .no => regT P cl ops rest ⟨put σ.fr o.dst undefA, σ.H⟩ k
    | .dyn b want => .ite (b == want) (opT P cl o σ.fr σ.H fun v H' => regT P cl ops rest ⟨put σ.fr o.dst v, H'⟩ k) (regT P cl ops rest ⟨put σ.fr o.dst undefA, σ.H⟩ k)

/-- An order of a region that draws: an operation is taken first; one alone may come up (which loads it waits for, each by a chain); one of two may come up. -/
inductive Ct where
  | done
  | take (i : Nat) (c : Ct)
  | force (i : Nat) (drops : List (List Nat)) (c : Ct)
  | two (i : Nat) (di : List (List Nat)) (ci : Ct) (j : Nat) (dj : List (List Nat)) (cj : Ct)

structure Wa where
  i : Nat
  l : Nat
  B : AB

def keepT {α : Type} (drops : List Nat) : List Wa → Heap → (List Wa → T α) → T α
  | [], _, k => k []
  | x :: ws, H, k => if drops.contains x.i then keepT drops ws H k else .need (H[x.l]? = some x.B) (keepT drops ws H fun ws' => k (x :: ws'))

/-- One operation that is carried out when it comes up. -/
def forceT {α : Type} (P : Program) (cl : Cl α) (ops : Array Oper) (i : Nat) (drops : List (List Nat)) (ws : List Wa) (σ : St) (k : List Wa → St → T α) : T α :=
  match ops[i]? with
  | none => .fail
  | some o => match guardA ops σ.fr o.guard with
    | .dyn _ _ => .fail
    | .no => k ws ⟨put σ.fr o.dst undefA, σ.H⟩
    | .yes => opT P cl o σ.fr σ.H fun v H' => keepT (drops.map fun d => d.getLastD i) ws H' fun ws' => k ws' ⟨put σ.fr o.dst v, H'⟩

def regD {α : Type} (P : Program) (cl : Cl α) (ops : Array Oper) : Ct → List Wa → St → (St → T α) → T α
  | .done, _, σ, k => k σ
  | .take i rest, ws, σ, k => match ops[i]? with
    | none => .fail
    | some o => match guardA ops σ.fr o.guard with
      | .dyn _ _ => .fail
      | .no => regD P cl ops rest ws ⟨put σ.fr o.dst undefA, σ.H⟩ k
      | .yes => match pureA P σ.fr o.op with
        | .bad => match readA P σ.fr o.op with
          | .at l r => match σ.H[l]? with
            | some B => (r B).then fun v => regD P cl ops rest (⟨i, l, B⟩ :: ws) ⟨put σ.fr o.dst v, σ.H⟩ k
            | none => .fail
          | .none => .fail
        | r => r.then fun v => regD P cl ops rest ws ⟨put σ.fr o.dst v, σ.H⟩ k
  | .force i drops rest, ws, σ, k => forceT P cl ops i drops ws σ fun ws' σ' => regD P cl ops rest ws' σ' k
  | .two i di ci j dj cj, ws, σ, k => .both (forceT P cl ops i di ws σ fun ws' σ' => regD P cl ops ci ws' σ' k) (forceT P cl ops j dj ws σ fun ws' σ' => regD P cl ops cj ws' σ' k)

def loopT {α : Type} (body : St → (Exit → St → T α) → T α) : Nat → St → (Exit → St → T α) → T α
  | 0, _, _ => .fail
  | n + 1, σ, k => body σ fun e σ' => match e with
    | .normal => loopT body n σ' k
    | e => k e σ'

def codeT {α : Type} (P : Program) (cl : Cl α) (ord : Nat → Ct) (n0 un : Nat) : Code → St → (Exit → St → T α) → T α
  | .skip, σ, k => k .normal σ
  | .region id ops draw, σ, k => match draw with
    | true => regD P cl ops (ord id) [] σ fun σ' => k .normal σ'
    | false => regT P cl ops ops.toList σ fun σ' => k .normal σ'
  | .seq a b, σ, k => codeT P cl ord n0 un a σ fun e σ' => match e with
    | .normal => codeT P cl ord n0 un b σ' k
    | e => k e σ'
  | .cond c a b, σ, k => match opnd σ.fr c with
    | .e (.s (.c (.bool t))) => match t with
      | true => codeT P cl ord n0 un a σ k
      | false => codeT P cl ord n0 un b σ k
    | .e (.s (.d (.bool t))) => .ite t (codeT P cl ord n0 un a σ k) (codeT P cl ord n0 un b σ k)
    | _ => .fail
  | .block id c, σ, k => codeT P cl ord n0 un c σ fun e σ' => match e with
    | .exit j => if j = id then k .normal σ' else k (.exit j) σ'
    | e => k e σ'
  | .loop c, σ, k => match un with
    | 0 => .code n0 (.loop c) σ k
    | un => loopT (fun σ k => codeT P cl ord n0 un c σ k) un σ k
  | .exit id, σ, k => k (.exit id) σ
  | .ret, σ, k => k .ret σ
  | .label _, σ, k => k .normal σ
  | _, _, _ => .fail

def SV.ref : SV → Nat
  | .ptr l _ | .rp l _ _ _ | .sl l _ _ _ _ | .mp l => l + 1
  | .fn _ caps => caps.foldr (fun p n => max (p.1 + 1) n) 0
  | _ => 0

def refs (cs : List SV) : Nat := cs.foldr (fun x n => max x.ref n) 0

def EV.ref : EV → Nat
  | .s x => x.ref
  | .agg cs => refs cs

def AV.ref : AV → Nat
  | .e x => x.ref
  | .tup vs => vs.foldr (fun x n => max x.ref n) 0

def AB.ref : AB → Nat
  | .cells _ cs => refs cs
  | _ => 0

def refsH (H : Heap) : Nat := H.foldr (fun B n => max B.ref n) 0

/-- Blocks that nothing tells of any more are forgotten. -/
def trim (n0 : Nat) (r : AV) (H : Heap) : Heap :=
  let m := max n0 (max r.ref (refsH (H.take n0)))
  if refsH (H.take m) ≤ m then H.take m else H

def resA (P : Program) (σ : St) : ResultVar → R
  | .tmp t => .v (σ.fr.getD t undefA)
  | .cell a t => match σ.fr.getD a undefA with
    | .e (.s (.ptr l o)) => match σ.H[l]? with
      | some B => loadA P t (.ptr l o) B
      | none => .bad
    | _ => .bad

def resT {α : Type} (P : Program) (σ : St) : List ResultVar → (List EV → T α) → T α
  | [], k => k []
  | x :: xs, k => (resA P σ x).then fun v => match v with
    | .e y => resT P σ xs fun ys => k (y :: ys)
    | .tup _ => .fail

def retT {α : Type} (P : Program) (fn : Func) (n0 : Nat) (σ : St) (k : AV → Heap → T α) : T α :=
  resT P σ fn.results.toList fun vs => match vs with
    | [x] => k (.e x) (trim n0 (.e x) σ.H)
    | vs => k (.tup vs) (trim n0 (.tup vs) σ.H)

inductive Ent where
  | stop
  | summ (g : List AV → Heap → T (AV × Heap))
  | body (ord : Nat → Ct) (un : Nat)

def callT {α : Type} (P : Program) (ent : Nat → Ent) : Nat → Cl α
  | 0, f, args, H, k => .call f args H k
  | m + 1, f, args, H, k => match ent f with
    | .stop => .call f args H k
    | .summ g => (g args H).bind fun x => k x.1 x.2
    | .body ord un => match P.funcs[f]? with
      | some fn => match fn.body with
        | some c => codeT P (callT P ent m) ord H.length un c ⟨args ++ List.replicate (fn.ntmps - args.length) undefA, H⟩ fun e σ => match e with
          | .normal => retT P fn H.length σ k
          | .ret => retT P fn H.length σ k
          | _ => .fail
        | none => .fail
      | none => .fail

end Go.Proofs.Ythckkoledhjmeaa.Ev
