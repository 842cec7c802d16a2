/-
  The abstract evaluator's trees: the packets on their way of which something is so.
-/
import Derived.Test.YthckkoledhjmeaaVA
namespace Go.Proofs.Ythckkoledhjmeaa.Ev
open Go

/-- A part of a code. -/
def sub : List Bool → Code → Code
  | [], c => c
  | b :: p, .seq x y => match b with | true => sub p x | false => sub p y
  | _ :: p, .block _ c => sub p c
  | _ :: p, .loop c => sub p c
  | _ :: _, c => c

/-- A region's operations. -/
def opsOf : Code → Array Oper
  | .region _ ops _ => ops
  | _ => #[]

def noOp : Oper := ⟨none, .move (.tmp 0), 0, "", #[], none⟩

def opAt (c : Code) (i : Nat) : Oper := (opsOf c).toList.getD i noOp

noncomputable def loop41 : Code := loopAt Try.prog 41 0
noncomputable def r41 (p : List Bool) : Code := sub p (bodyOf Try.prog 41)

theorem body41 : bodyOf Try.prog 41 = .seq (r41 [true]) (.seq (r41 [false, true]) (.seq (.seq (.region 2 (opsOf (r41 [false, false, true, true])) false) (.block 0 (.loop loop41))) (r41 [false, false, false]))) := by kernel_rfl
theorem loop41_eq : loop41 = .seq (.region 3 (opsOf (sub [true] loop41)) false) (.seq (.cond (.tmp 14) .skip (.exit 0)) (.block 1 (.seq (.region 4 (opsOf (sub [false, false, false, true] loop41)) false) (sub [false, false, false, false] loop41)))) := by kernel_rfl

/-- A ledger: how much room, the first number, the next one, when one was sent last, what is on its way. -/
structure LSt where
  room : Int
  first : Int
  next : Int
  last : Int
  es : List Pkt

def lc (L : LSt) (lm : Nat) : List SV := [.d (.int .i64 L.room), .d (.int .u64 L.first), .d (.int .u64 L.next), .d (.int .i64 L.last), .mp lm]

def eS : List (Nat × Ent) := [(44, .body oN 0), (42, .body oN 0)]

/-- Where a round has its entry. -/
def fr41 (vs : Nat → Value) (f : SV) (sl it : AV) (key : Int) (p : Pkt) : List AV :=
  put (put (put (fat [1, 5, 12] vs [.e (.s f), sl, it] 27 0) (some 13) (.tup [.s (.c (.bool true)), .s (.d (.int .u64 key)), .agg p.cells])) (some 14) (.c (.bool true))) (some 15) (.tup [.s (.d (.int .u64 key)), .agg p.cells])

noncomputable def rest4 : List Oper := (opsOf (sub [false, false, false, true] loop41)).toList.tail
noncomputable def tail41 : Code := sub [false, false, false, false] loop41

noncomputable def round41 (n0 : Nat) (σ : St) : T (Exit × List AV × Heap) :=
  regT Try.prog (callT Try.prog (entL eS) 1) (opsOf (sub [false, false, false, true] loop41)) rest4 σ fun σ' => codeT Try.prog (callT Try.prog (entL eS) 1) oN n0 0 tail41 σ' (endK [1, 5, 12] 27)

noncomputable def tO (vs : Nat → Value) (it : AV) (L : LSt) (p : Pkt) (k : Nat) (g : Nat → List Value) : T (Exit × List AV × Heap) := round41 2 ⟨fr41 vs (.fn 44 []) (.e (.s (.sl 2 4 0 k 0))) it p.seq p, [.cells 86 (lc L 1), .dead, .row 36 4 k g]⟩

theorem tO_eq (vs : Nat → Value) (it : AV) (L : LSt) (p : Pkt) (k : Nat) (g : Nat → List Value) : tO vs it L p k g =
    T.need
      (0 + k ≤ k ∧
        0 + 1 ≤
            (chunksOf (3 + 1) 1
                [Value.int IntKind.u64 p.seq, Value.int IntKind.i64 p.mi, Value.int IntKind.i64 p.size,
                  Value.int IntKind.i64 p.sent]).length ∧
          k + 1 ≤ most)
      (T.ret
        (Exit.normal, [AV.e (EV.s (SV.fn 44 [])), AV.e (EV.s (SV.sl 5 4 0 (k + 1) 0)), it],
          [AB.cells 86
              [SV.d (Value.int IntKind.i64 L.room), SV.d (Value.int IntKind.u64 L.first),
                SV.d (Value.int IntKind.u64 L.next), SV.d (Value.int IntKind.i64 L.last), SV.mp 1],
            AB.dead, AB.dead,
            AB.cells 36
              [SV.d (Value.int IntKind.u64 p.seq), SV.d (Value.int IntKind.i64 p.mi), SV.d (Value.int IntKind.i64 p.size),
                SV.d (Value.int IntKind.i64 p.sent)],
            AB.lit 36 4
              [[Value.int IntKind.u64 p.seq, Value.int IntKind.i64 p.mi, Value.int IntKind.i64 p.size,
                  Value.int IntKind.i64 p.sent]],
            AB.row 36 4 (k + 1)
              (appendG g 0 k
                (fun j =>
                  (chunksOf (3 + 1) 1
                        [Value.int IntKind.u64 p.seq, Value.int IntKind.i64 p.mi, Value.int IntKind.i64 p.size,
                          Value.int IntKind.i64 p.sent]).getD
                    j [])
                0)])) := by kernel_rfl


noncomputable def tE (vs : Nat → Value) (it : AV) (L : LSt) (att tmo : Int) (p : Pkt) (k : Nat) (g : Nat → List Value) : T (Exit × List AV × Heap) := round41 4 ⟨fr41 vs (.fn 42 [(2, 0), (3, 0)]) (.e (.s (.sl 4 4 0 k 0))) it p.seq p, [.cells 86 (lc L 1), .dead, .cells 3 [.d (.int .i64 att)], .cells 3 [.d (.int .i64 tmo)], .row 36 4 k g]⟩

theorem tE_eq (vs : Nat → Value) (it : AV) (L : LSt) (att tmo : Int) (p : Pkt) (k : Nat) (g : Nat → List Value) : tE vs it L att tmo p k g =
    T.ite (decide (IntKind.i64.wrap (att - p.sent) ≥ tmo))
      (T.ite (decide (att ≥ 0))
        (T.need
          (0 + k ≤ k ∧
            0 + 1 ≤
                (chunksOf (3 + 1) 1
                    [Value.int IntKind.u64 p.seq, Value.int IntKind.i64 p.mi, Value.int IntKind.i64 p.size,
                      Value.int IntKind.i64 p.sent]).length ∧
              k + 1 ≤ most)
          (T.ret
            (Exit.normal, [AV.e (EV.s (SV.fn 42 [(2, 0), (3, 0)])), AV.e (EV.s (SV.sl 7 4 0 (k + 1) 0)), it],
              [AB.cells 86
                  [SV.d (Value.int IntKind.i64 L.room), SV.d (Value.int IntKind.u64 L.first),
                    SV.d (Value.int IntKind.u64 L.next), SV.d (Value.int IntKind.i64 L.last), SV.mp 1],
                AB.dead, AB.cells 3 [SV.d (Value.int IntKind.i64 att)], AB.cells 3 [SV.d (Value.int IntKind.i64 tmo)],
                AB.dead,
                AB.cells 36
                  [SV.d (Value.int IntKind.u64 p.seq), SV.d (Value.int IntKind.i64 p.mi),
                    SV.d (Value.int IntKind.i64 p.size), SV.d (Value.int IntKind.i64 p.sent)],
                AB.lit 36 4
                  [[Value.int IntKind.u64 p.seq, Value.int IntKind.i64 p.mi, Value.int IntKind.i64 p.size,
                      Value.int IntKind.i64 p.sent]],
                AB.row 36 4 (k + 1)
                  (appendG g 0 k
                    (fun j =>
                      (chunksOf (3 + 1) 1
                            [Value.int IntKind.u64 p.seq, Value.int IntKind.i64 p.mi, Value.int IntKind.i64 p.size,
                              Value.int IntKind.i64 p.sent]).getD
                        j [])
                    0)])))
        (T.ite (decide (IntKind.i64.wrap (att - p.sent) < 0))
          (T.need
            (0 + k ≤ k ∧
              0 + 1 ≤
                  (chunksOf (3 + 1) 1
                      [Value.int IntKind.u64 p.seq, Value.int IntKind.i64 p.mi, Value.int IntKind.i64 p.size,
                        Value.int IntKind.i64 p.sent]).length ∧
                k + 1 ≤ most)
            (T.ret
              (Exit.normal, [AV.e (EV.s (SV.fn 42 [(2, 0), (3, 0)])), AV.e (EV.s (SV.sl 7 4 0 (k + 1) 0)), it],
                [AB.cells 86
                    [SV.d (Value.int IntKind.i64 L.room), SV.d (Value.int IntKind.u64 L.first),
                      SV.d (Value.int IntKind.u64 L.next), SV.d (Value.int IntKind.i64 L.last), SV.mp 1],
                  AB.dead, AB.cells 3 [SV.d (Value.int IntKind.i64 att)], AB.cells 3 [SV.d (Value.int IntKind.i64 tmo)],
                  AB.dead,
                  AB.cells 36
                    [SV.d (Value.int IntKind.u64 p.seq), SV.d (Value.int IntKind.i64 p.mi),
                      SV.d (Value.int IntKind.i64 p.size), SV.d (Value.int IntKind.i64 p.sent)],
                  AB.lit 36 4
                    [[Value.int IntKind.u64 p.seq, Value.int IntKind.i64 p.mi, Value.int IntKind.i64 p.size,
                        Value.int IntKind.i64 p.sent]],
                  AB.row 36 4 (k + 1)
                    (appendG g 0 k
                      (fun j =>
                        (chunksOf (3 + 1) 1
                              [Value.int IntKind.u64 p.seq, Value.int IntKind.i64 p.mi, Value.int IntKind.i64 p.size,
                                Value.int IntKind.i64 p.sent]).getD
                          j [])
                      0)])))
          (T.ret
            (Exit.normal, [AV.e (EV.s (SV.fn 42 [(2, 0), (3, 0)])), AV.e (EV.s (SV.sl 4 4 0 k 0)), it],
              [AB.cells 86
                  [SV.d (Value.int IntKind.i64 L.room), SV.d (Value.int IntKind.u64 L.first),
                    SV.d (Value.int IntKind.u64 L.next), SV.d (Value.int IntKind.i64 L.last), SV.mp 1],
                AB.dead, AB.cells 3 [SV.d (Value.int IntKind.i64 att)], AB.cells 3 [SV.d (Value.int IntKind.i64 tmo)],
                AB.row 36 4 k g,
                AB.cells 36
                  [SV.d (Value.int IntKind.u64 p.seq), SV.d (Value.int IntKind.i64 p.mi),
                    SV.d (Value.int IntKind.i64 p.size), SV.d (Value.int IntKind.i64 p.sent)]]))))
      (T.ret
        (Exit.normal, [AV.e (EV.s (SV.fn 42 [(2, 0), (3, 0)])), AV.e (EV.s (SV.sl 4 4 0 k 0)), it],
          [AB.cells 86
              [SV.d (Value.int IntKind.i64 L.room), SV.d (Value.int IntKind.u64 L.first),
                SV.d (Value.int IntKind.u64 L.next), SV.d (Value.int IntKind.i64 L.last), SV.mp 1],
            AB.dead, AB.cells 3 [SV.d (Value.int IntKind.i64 att)], AB.cells 3 [SV.d (Value.int IntKind.i64 tmo)],
            AB.row 36 4 k g,
            AB.cells 36
              [SV.d (Value.int IntKind.u64 p.seq), SV.d (Value.int IntKind.i64 p.mi), SV.d (Value.int IntKind.i64 p.size),
                SV.d (Value.int IntKind.i64 p.sent)]])) := by kernel_rfl


end Go.Proofs.Ythckkoledhjmeaa.Ev
