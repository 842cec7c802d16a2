/-
  The abstract evaluator's trees: a ledger's functions, the program's and the document's.
-/
import Derived.Test.YthckkoledhjmeaaVE
namespace Go.Proofs.Ythckkoledhjmeaa.Ev
open Go

/-- The document's ledger: its row lies in block lr. -/
def rc (L : LSt) (lr n : Nat) : List SV := [.d (.int .i64 L.room), .d (.int .u64 L.first), .d (.int .u64 L.next), .d (.int .i64 L.last), .sl lr 4 0 n 0]

def e12 : List (Nat × Ent) := [(12, .body o12 0)]
def e13 : List (Nat × Ent) := [(13, .body o13 0), (39, .body oN 0), (40, .body oN 0)]
def e14 : List (Nat × Ent) := [(14, .body oN 0)]
def e15 : List (Nat × Ent) := [(15, .body oN 0)]
def e17 : List (Nat × Ent) := [(17, .body o17 0)]
def e43 : List (Nat × Ent) := [(43, .body oN 0)]

/-- Is a number one of 64 bits? -/
def I64 (x : Int) : Prop := -9223372036854775808 ≤ x ∧ x < 9223372036854775808

/-- Is a packet's time over? -/
def overX (att tmo : Int) (p : Pkt) : Bool := decide (att - p.sent ≥ tmo)

def pk4 : List SV → Option Pkt
  | [a, b, c, d] => match a.num, b.num, c.num, d.num with
    | some (.u64, a), some (.i64, b), some (.i64, c), some (.i64, d) => some ⟨a, b, c, d⟩
    | _, _, _, _ => none
  | _ => none

def numA : AV → Option (IntKind × Int)
  | .e (.s x) => x.num
  | _ => none

def s43 (args : List AV) (H : Heap) : T (AV × Heap) :=
  match args with
  | [.e (.agg cs), a, b] => match pk4 cs, numA a, numA b with
    | some p, some (.i64, att), some (.i64, tmo) => .need (I64 att ∧ I64 tmo ∧ 0 ≤ p.sent ∧ p.sent ≤ 1099511627776) (.ret (.d (.bool (overX att tmo p)), H))
    | _, _, _ => .fail
  | _ => .fail

noncomputable def t43 (att tmo : Int) (p : Pkt) : T (AV × Heap) := callT Try.prog (entL e43) 1 43 [.e (.agg p.cells), .d (.int .i64 att), .d (.int .i64 tmo)] [] fun r H' => .ret (r, H')

theorem t43_eq (att tmo : Int) (p : Pkt) : t43 att tmo p =
    T.ite (decide (tmo < 0))
      (T.ite (decide (att ≥ 0))
        (T.ite (decide (IntKind.i64.wrap (att - tmo) < 0)) (T.ret (AV.e (EV.s (SV.c (Value.bool true))), []))
          (T.ite (decide (tmo > 0))
            (T.ite (decide (att < 0))
              (T.ite (decide (IntKind.i64.wrap (att - tmo) ≥ 0)) (T.ret (AV.e (EV.s (SV.c (Value.bool false))), []))
                (T.ite (decide (p.sent ≤ IntKind.i64.wrap (att - tmo))) (T.ret (AV.e (EV.s (SV.c (Value.bool true))), []))
                  (T.ret (AV.e (EV.s (SV.c (Value.bool false))), []))))
              (T.ite (decide (p.sent ≤ IntKind.i64.wrap (att - tmo))) (T.ret (AV.e (EV.s (SV.c (Value.bool true))), []))
                (T.ret (AV.e (EV.s (SV.c (Value.bool false))), []))))
            (T.ite (decide (p.sent ≤ IntKind.i64.wrap (att - tmo))) (T.ret (AV.e (EV.s (SV.c (Value.bool true))), []))
              (T.ret (AV.e (EV.s (SV.c (Value.bool false))), [])))))
        (T.ite (decide (tmo > 0))
          (T.ite (decide (att < 0))
            (T.ite (decide (IntKind.i64.wrap (att - tmo) ≥ 0)) (T.ret (AV.e (EV.s (SV.c (Value.bool false))), []))
              (T.ite (decide (p.sent ≤ IntKind.i64.wrap (att - tmo))) (T.ret (AV.e (EV.s (SV.c (Value.bool true))), []))
                (T.ret (AV.e (EV.s (SV.c (Value.bool false))), []))))
            (T.ite (decide (p.sent ≤ IntKind.i64.wrap (att - tmo))) (T.ret (AV.e (EV.s (SV.c (Value.bool true))), []))
              (T.ret (AV.e (EV.s (SV.c (Value.bool false))), []))))
          (T.ite (decide (p.sent ≤ IntKind.i64.wrap (att - tmo))) (T.ret (AV.e (EV.s (SV.c (Value.bool true))), []))
            (T.ret (AV.e (EV.s (SV.c (Value.bool false))), [])))))
      (T.ite (decide (tmo > 0))
        (T.ite (decide (att < 0))
          (T.ite (decide (IntKind.i64.wrap (att - tmo) ≥ 0)) (T.ret (AV.e (EV.s (SV.c (Value.bool false))), []))
            (T.ite (decide (p.sent ≤ IntKind.i64.wrap (att - tmo))) (T.ret (AV.e (EV.s (SV.c (Value.bool true))), []))
              (T.ret (AV.e (EV.s (SV.c (Value.bool false))), []))))
          (T.ite (decide (p.sent ≤ IntKind.i64.wrap (att - tmo))) (T.ret (AV.e (EV.s (SV.c (Value.bool true))), []))
            (T.ret (AV.e (EV.s (SV.c (Value.bool false))), []))))
        (T.ite (decide (p.sent ≤ IntKind.i64.wrap (att - tmo))) (T.ret (AV.e (EV.s (SV.c (Value.bool true))), []))
          (T.ret (AV.e (EV.s (SV.c (Value.bool false))), [])))) := by kernel_rfl


def e18 : List (Nat × Ent) := [(18, .body oN 0), (43, .summ s43)]
def e19 : List (Nat × Ent) := [(19, .body oN 0)]

noncomputable def t12 (L : LSt) (mi size at' : Int) : T (AV × Heap) := callT Try.prog (entL e12) 1 12 [.e (.s (.ptr 0 0)), .d (.int .i64 mi), .d (.int .i64 size), .d (.int .i64 at')] [.cells 86 (lc L 1), .pm L.es] fun r H' => .ret (r, H')

theorem t12_eq (L : LSt) (mi size at' : Int) : t12 L mi size at' =
    T.ite (decide (mi < 0))
      (T.ret
        (AV.tup [EV.s (SV.c (Value.int IntKind.u64 0)), EV.s (SV.c (Value.int IntKind.i64 1))],
          [AB.cells 86
              [SV.d (Value.int IntKind.i64 L.room), SV.d (Value.int IntKind.u64 L.first),
                SV.d (Value.int IntKind.u64 L.next), SV.d (Value.int IntKind.i64 L.last), SV.mp 1],
            AB.pm L.es]))
      (T.ite (decide (size < 1))
        (T.ret
          (AV.tup [EV.s (SV.c (Value.int IntKind.u64 0)), EV.s (SV.c (Value.int IntKind.i64 9))],
            [AB.cells 86
                [SV.d (Value.int IntKind.i64 L.room), SV.d (Value.int IntKind.u64 L.first),
                  SV.d (Value.int IntKind.u64 L.next), SV.d (Value.int IntKind.i64 L.last), SV.mp 1],
              AB.pm L.es]))
        (T.ite (decide (size > 9000))
          (T.ret
            (AV.tup [EV.s (SV.c (Value.int IntKind.u64 0)), EV.s (SV.c (Value.int IntKind.i64 9))],
              [AB.cells 86
                  [SV.d (Value.int IntKind.i64 L.room), SV.d (Value.int IntKind.u64 L.first),
                    SV.d (Value.int IntKind.u64 L.next), SV.d (Value.int IntKind.i64 L.last), SV.mp 1],
                AB.pm L.es]))
          (T.ite (decide (at' < L.last))
            (T.ret
              (AV.tup [EV.s (SV.c (Value.int IntKind.u64 0)), EV.s (SV.c (Value.int IntKind.i64 10))],
                [AB.cells 86
                    [SV.d (Value.int IntKind.i64 L.room), SV.d (Value.int IntKind.u64 L.first),
                      SV.d (Value.int IntKind.u64 L.next), SV.d (Value.int IntKind.i64 L.last), SV.mp 1],
                  AB.pm L.es]))
            (T.ite (decide (at' > 1099511627776))
              (T.ret
                (AV.tup [EV.s (SV.c (Value.int IntKind.u64 0)), EV.s (SV.c (Value.int IntKind.i64 10))],
                  [AB.cells 86
                      [SV.d (Value.int IntKind.i64 L.room), SV.d (Value.int IntKind.u64 L.first),
                        SV.d (Value.int IntKind.u64 L.next), SV.d (Value.int IntKind.i64 L.last), SV.mp 1],
                    AB.pm L.es]))
              (T.ite ((↑L.es.length : Int) == L.room)
                (T.ret
                  (AV.tup [EV.s (SV.c (Value.int IntKind.u64 0)), EV.s (SV.c (Value.int IntKind.i64 2))],
                    [AB.cells 86
                        [SV.d (Value.int IntKind.i64 L.room), SV.d (Value.int IntKind.u64 L.first),
                          SV.d (Value.int IntKind.u64 L.next), SV.d (Value.int IntKind.i64 L.last), SV.mp 1],
                      AB.pm L.es]))
                (T.ite (L.next == 18446744073709551615)
                  (T.ret
                    (AV.tup [EV.s (SV.c (Value.int IntKind.u64 0)), EV.s (SV.c (Value.int IntKind.i64 15))],
                      [AB.cells 86
                          [SV.d (Value.int IntKind.i64 L.room), SV.d (Value.int IntKind.u64 L.first),
                            SV.d (Value.int IntKind.u64 L.next), SV.d (Value.int IntKind.i64 L.last), SV.mp 1],
                        AB.pm L.es]))
                  (T.need (L.next = L.next ∧ hasP L.es L.next = false)
                    (T.ret
                      (AV.tup [EV.s (SV.d (Value.int IntKind.u64 L.next)), EV.s (SV.c (Value.int IntKind.i64 0))],
                        [AB.cells 86
                            [SV.d (Value.int IntKind.i64 L.room), SV.d (Value.int IntKind.u64 L.first),
                              SV.d (Value.int IntKind.u64 (IntKind.u64.wrap (L.next + 1))),
                              SV.d (Value.int IntKind.i64 at'), SV.mp 1],
                          AB.pm (L.es ++ [{ seq := L.next, mi := mi, size := size, sent := at' }])]))))))))) := by kernel_rfl


noncomputable def t13 (L : LSt) (n : Nat) (g : Nat → List Value) (mi size at' : Int) : T (AV × Heap) := callT Try.prog (entL e13) 2 13 [.e (.s (.ptr 0 0)), .d (.int .i64 mi), .d (.int .i64 size), .d (.int .i64 at')] [.cells 44 (rc L 1 n), .row 36 4 n g] fun r H' => .ret (r, H')

theorem t13_eq (L : LSt) (n : Nat) (g : Nat → List Value) (mi size at' : Int) : t13 L n g mi size at' =
    T.ite (decide (mi < 0))
      (T.ret
        (AV.tup [EV.s (SV.c (Value.int IntKind.u64 0)), EV.s (SV.c (Value.int IntKind.i64 1))],
          [AB.cells 44
              [SV.d (Value.int IntKind.i64 L.room), SV.d (Value.int IntKind.u64 L.first),
                SV.d (Value.int IntKind.u64 L.next), SV.d (Value.int IntKind.i64 L.last), SV.sl 1 4 0 n 0],
            AB.row 36 4 n g]))
      (T.ite (decide (size ≥ 1))
        (T.ite (decide (size ≤ 9000))
          (T.ite (decide (at' ≥ 0))
            (T.ite (decide (at' ≤ 1099511627776))
              (T.ite (decide (at' < L.last))
                (T.ret
                  (AV.tup [EV.s (SV.c (Value.int IntKind.u64 0)), EV.s (SV.c (Value.int IntKind.i64 10))],
                    [AB.cells 44
                        [SV.d (Value.int IntKind.i64 L.room), SV.d (Value.int IntKind.u64 L.first),
                          SV.d (Value.int IntKind.u64 L.next), SV.d (Value.int IntKind.i64 L.last), SV.sl 1 4 0 n 0],
                      AB.row 36 4 n g]))
                (T.ite (decide ((↑n : Int) ≥ L.room))
                  (T.ret
                    (AV.tup [EV.s (SV.c (Value.int IntKind.u64 0)), EV.s (SV.c (Value.int IntKind.i64 2))],
                      [AB.cells 44
                          [SV.d (Value.int IntKind.i64 L.room), SV.d (Value.int IntKind.u64 L.first),
                            SV.d (Value.int IntKind.u64 L.next), SV.d (Value.int IntKind.i64 L.last), SV.sl 1 4 0 n 0],
                        AB.row 36 4 n g]))
                  (T.ite (L.next == 18446744073709551615)
                    (T.ret
                      (AV.tup [EV.s (SV.c (Value.int IntKind.u64 0)), EV.s (SV.c (Value.int IntKind.i64 15))],
                        [AB.cells 44
                            [SV.d (Value.int IntKind.i64 L.room), SV.d (Value.int IntKind.u64 L.first),
                              SV.d (Value.int IntKind.u64 L.next), SV.d (Value.int IntKind.i64 L.last), SV.sl 1 4 0 n 0],
                          AB.row 36 4 n g]))
                    (T.need
                      (some
                          (AB.cells 44
                            [SV.d (Value.int IntKind.i64 L.room), SV.d (Value.int IntKind.u64 L.first),
                              SV.d (Value.int IntKind.u64 L.next), SV.d (Value.int IntKind.i64 L.last), SV.sl 1 4 0 n 0]) =
                        some
                          (AB.cells 44
                            [SV.d (Value.int IntKind.i64 L.room), SV.d (Value.int IntKind.u64 L.first),
                              SV.d (Value.int IntKind.u64 L.next), SV.d (Value.int IntKind.i64 L.last), SV.sl 1 4 0 n 0]))
                      (T.need
                        (0 + n ≤ n ∧
                          0 + 1 ≤
                              (chunksOf (3 + 1) 1
                                  [Value.int IntKind.u64 L.next, Value.int IntKind.i64 mi, Value.int IntKind.i64 size,
                                    Value.int IntKind.i64 at']).length ∧
                            n + 1 ≤ most)
                        (T.ret
                          (AV.tup
                              [EV.s (SV.d (Value.int IntKind.u64 (IntKind.u64.wrap (IntKind.u64.wrap (L.next + 1) - 1)))),
                                EV.s (SV.c (Value.int IntKind.i64 0))],
                            [AB.cells 44
                                [SV.d (Value.int IntKind.i64 L.room), SV.d (Value.int IntKind.u64 L.first),
                                  SV.d (Value.int IntKind.u64 (IntKind.u64.wrap (L.next + 1))),
                                  SV.d (Value.int IntKind.i64 at'), SV.sl 3 4 0 (n + 1) 0],
                              AB.dead,
                              AB.lit 36 4
                                [[Value.int IntKind.u64 L.next, Value.int IntKind.i64 mi, Value.int IntKind.i64 size,
                                    Value.int IntKind.i64 at']],
                              AB.row 36 4 (n + 1)
                                (appendG g 0 n
                                  (fun j =>
                                    (chunksOf (3 + 1) 1
                                          [Value.int IntKind.u64 L.next, Value.int IntKind.i64 mi,
                                            Value.int IntKind.i64 size, Value.int IntKind.i64 at']).getD
                                      j [])
                                  0)])))))))
              (T.ret
                (AV.tup [EV.s (SV.c (Value.int IntKind.u64 0)), EV.s (SV.c (Value.int IntKind.i64 10))],
                  [AB.cells 44
                      [SV.d (Value.int IntKind.i64 L.room), SV.d (Value.int IntKind.u64 L.first),
                        SV.d (Value.int IntKind.u64 L.next), SV.d (Value.int IntKind.i64 L.last), SV.sl 1 4 0 n 0],
                    AB.row 36 4 n g])))
            (T.ret
              (AV.tup [EV.s (SV.c (Value.int IntKind.u64 0)), EV.s (SV.c (Value.int IntKind.i64 10))],
                [AB.cells 44
                    [SV.d (Value.int IntKind.i64 L.room), SV.d (Value.int IntKind.u64 L.first),
                      SV.d (Value.int IntKind.u64 L.next), SV.d (Value.int IntKind.i64 L.last), SV.sl 1 4 0 n 0],
                  AB.row 36 4 n g])))
          (T.ret
            (AV.tup [EV.s (SV.c (Value.int IntKind.u64 0)), EV.s (SV.c (Value.int IntKind.i64 9))],
              [AB.cells 44
                  [SV.d (Value.int IntKind.i64 L.room), SV.d (Value.int IntKind.u64 L.first),
                    SV.d (Value.int IntKind.u64 L.next), SV.d (Value.int IntKind.i64 L.last), SV.sl 1 4 0 n 0],
                AB.row 36 4 n g])))
        (T.ret
          (AV.tup [EV.s (SV.c (Value.int IntKind.u64 0)), EV.s (SV.c (Value.int IntKind.i64 9))],
            [AB.cells 44
                [SV.d (Value.int IntKind.i64 L.room), SV.d (Value.int IntKind.u64 L.first),
                  SV.d (Value.int IntKind.u64 L.next), SV.d (Value.int IntKind.i64 L.last), SV.sl 1 4 0 n 0],
              AB.row 36 4 n g]))) := by kernel_rfl


noncomputable def t14 (L : LSt) (seq : Int) : T (AV × Heap) := callT Try.prog (entL e14) 1 14 [.e (.s (.ptr 0 0)), .d (.int .u64 seq)] [.cells 86 (lc L 1), .pm L.es] fun r H' => .ret (r, H')

theorem t14_eq (L : LSt) (seq : Int) : t14 L seq =
    T.ite (decide (seq < L.first))
      (T.ret
        (AV.tup
            [EV.agg
                [SV.c (Value.int IntKind.u64 0), SV.c (Value.int IntKind.i64 0), SV.c (Value.int IntKind.i64 0),
                  SV.c (Value.int IntKind.i64 0)],
              EV.s (SV.c (Value.int IntKind.i64 3))],
          [AB.cells 86
              [SV.d (Value.int IntKind.i64 L.room), SV.d (Value.int IntKind.u64 L.first),
                SV.d (Value.int IntKind.u64 L.next), SV.d (Value.int IntKind.i64 L.last), SV.mp 1],
            AB.pm L.es]))
      (T.ite (decide (seq ≥ L.next))
        (T.ret
          (AV.tup
              [EV.agg
                  [SV.c (Value.int IntKind.u64 0), SV.c (Value.int IntKind.i64 0), SV.c (Value.int IntKind.i64 0),
                    SV.c (Value.int IntKind.i64 0)],
                EV.s (SV.c (Value.int IntKind.i64 3))],
            [AB.cells 86
                [SV.d (Value.int IntKind.i64 L.room), SV.d (Value.int IntKind.u64 L.first),
                  SV.d (Value.int IntKind.u64 L.next), SV.d (Value.int IntKind.i64 L.last), SV.mp 1],
              AB.pm L.es]))
        (T.ite (hasP L.es seq)
          (T.ret
            (AV.tup
                [EV.agg
                    [SV.d (Value.int IntKind.u64 (findP L.es seq).seq), SV.d (Value.int IntKind.i64 (findP L.es seq).mi),
                      SV.d (Value.int IntKind.i64 (findP L.es seq).size),
                      SV.d (Value.int IntKind.i64 (findP L.es seq).sent)],
                  EV.s (SV.c (Value.int IntKind.i64 0))],
              [AB.cells 86
                  [SV.d (Value.int IntKind.i64 L.room), SV.d (Value.int IntKind.u64 L.first),
                    SV.d (Value.int IntKind.u64 L.next), SV.d (Value.int IntKind.i64 L.last), SV.mp 1],
                AB.pm (delP L.es seq)]))
          (T.ret
            (AV.tup
                [EV.agg
                    [SV.c (Value.int IntKind.u64 0), SV.c (Value.int IntKind.i64 0), SV.c (Value.int IntKind.i64 0),
                      SV.c (Value.int IntKind.i64 0)],
                  EV.s (SV.c (Value.int IntKind.i64 4))],
              [AB.cells 86
                  [SV.d (Value.int IntKind.i64 L.room), SV.d (Value.int IntKind.u64 L.first),
                    SV.d (Value.int IntKind.u64 L.next), SV.d (Value.int IntKind.i64 L.last), SV.mp 1],
                AB.pm L.es])))) := by kernel_rfl


noncomputable def t14n (seq : Int) : T (AV × Heap) := callT Try.prog (entL e14) 1 14 [.c (.pointer none), .d (.int .u64 seq)] [] fun r H' => .ret (r, H')

theorem t14n_eq (seq : Int) : t14n seq =
    T.ret
      (AV.tup
          [EV.agg
              [SV.c (Value.int IntKind.u64 0), SV.c (Value.int IntKind.i64 0), SV.c (Value.int IntKind.i64 0),
                SV.c (Value.int IntKind.i64 0)],
            EV.s (SV.c (Value.int IntKind.i64 5))],
        []) := by kernel_rfl


noncomputable def t15 (L : LSt) (n : Nat) (f : Nat → Pkt) (seq : Int) : T (AV × Heap) := callT Try.prog (entL e15) 2 15 [.e (.s (.ptr 0 0)), .d (.int .u64 seq)] [.cells 44 (rc L 1 n), .row 36 4 n (pkF f)] fun r H' => .ret (r, H')

theorem t15_eq (L : LSt) (n : Nat) (f : Nat → Pkt) (seq : Int) : t15 L n f seq =
    T.ite (decide (seq < L.first))
      (T.ret
        (AV.tup
            [EV.agg
                [SV.c (Value.int IntKind.u64 0), SV.c (Value.int IntKind.i64 0), SV.c (Value.int IntKind.i64 0),
                  SV.c (Value.int IntKind.i64 0)],
              EV.s (SV.c (Value.int IntKind.i64 3))],
          [AB.cells 44
              [SV.d (Value.int IntKind.i64 L.room), SV.d (Value.int IntKind.u64 L.first),
                SV.d (Value.int IntKind.u64 L.next), SV.d (Value.int IntKind.i64 L.last), SV.sl 1 4 0 n 0],
            AB.row 36 4 n (pkF f)]))
      (T.ite (decide (seq ≥ L.next))
        (T.ret
          (AV.tup
              [EV.agg
                  [SV.c (Value.int IntKind.u64 0), SV.c (Value.int IntKind.i64 0), SV.c (Value.int IntKind.i64 0),
                    SV.c (Value.int IntKind.i64 0)],
                EV.s (SV.c (Value.int IntKind.i64 3))],
            [AB.cells 44
                [SV.d (Value.int IntKind.i64 L.room), SV.d (Value.int IntKind.u64 L.first),
                  SV.d (Value.int IntKind.u64 L.next), SV.d (Value.int IntKind.i64 L.last), SV.sl 1 4 0 n 0],
              AB.row 36 4 n (pkF f)]))
        (T.code 2 (loopAt Try.prog 15 0).loop
          {
            fr :=
              [AV.e (EV.s (SV.ptr 0 0)), AV.e (EV.s (SV.d (Value.int IntKind.u64 seq))), AV.tup [], AV.tup [],
                AV.e (EV.s (SV.ptr 2 0)), AV.e (EV.s (SV.c (Value.int IntKind.i64 0))),
                AV.e (EV.s (SV.c (Value.slice none 0 0))), AV.e (EV.s (SV.ptr 3 0)), AV.e (EV.s (SV.c (Value.bool false))),
                AV.e (EV.s (SV.c (Value.int IntKind.i64 0))), AV.e (EV.s (SV.d (Value.int IntKind.u64 seq))),
                AV.e (EV.s (SV.ptr 0 0)), AV.e (EV.s (SV.ptr 0 0)), AV.e (EV.s (SV.ptr 0 1)),
                AV.e (EV.s (SV.d (Value.int IntKind.u64 L.first))), AV.e (EV.s (SV.c (Value.bool false))),
                AV.e (EV.s (SV.c (Value.bool false))), AV.e (EV.s (SV.d (Value.int IntKind.u64 seq))),
                AV.e (EV.s (SV.ptr 0 0)), AV.e (EV.s (SV.ptr 0 0)), AV.e (EV.s (SV.ptr 0 2)),
                AV.e (EV.s (SV.d (Value.int IntKind.u64 L.next))), AV.e (EV.s (SV.c (Value.bool false))),
                AV.e (EV.s (SV.c (Value.bool false))), AV.tup [], AV.tup [], AV.tup [], AV.tup [], AV.tup [], AV.tup [],
                AV.tup [], AV.tup [], AV.tup [], AV.tup [], AV.tup [], AV.tup [], AV.tup [], AV.tup [], AV.tup [],
                AV.tup [], AV.tup [], AV.tup [], AV.tup [], AV.tup [], AV.tup [], AV.tup [], AV.tup [], AV.tup [],
                AV.tup [], AV.tup [], AV.tup [], AV.tup [], AV.tup [], AV.tup [], AV.tup [], AV.tup [], AV.tup [],
                AV.tup [], AV.tup [], AV.tup [], AV.tup [], AV.tup [], AV.tup [], AV.tup [], AV.tup [], AV.tup [],
                AV.tup [], AV.tup [], AV.tup []],
            H :=
              [AB.cells 44
                  [SV.d (Value.int IntKind.i64 L.room), SV.d (Value.int IntKind.u64 L.first),
                    SV.d (Value.int IntKind.u64 L.next), SV.d (Value.int IntKind.i64 L.last), SV.sl 1 4 0 n 0],
                AB.row 36 4 n (pkF f),
                AB.cells 36
                  [SV.c (Value.int IntKind.u64 0), SV.c (Value.int IntKind.i64 0), SV.c (Value.int IntKind.i64 0),
                    SV.c (Value.int IntKind.i64 0)],
                AB.cells 36
                  [SV.c (Value.int IntKind.u64 0), SV.c (Value.int IntKind.i64 0), SV.c (Value.int IntKind.i64 0),
                    SV.c (Value.int IntKind.i64 0)]] }
          (T.go [false, false] (t15 L n f seq)).kont)) := by kernel_rfl


noncomputable def t17 (L : LSt) (att tmo : Int) : T (AV × Heap) := callT Try.prog (entL e17) 2 17 [.e (.s (.ptr 0 0)), .d (.int .i64 att), .d (.int .i64 tmo)] [.cells 86 (lc L 1), .pm L.es] fun r H' => .ret (r, H')

theorem t17_eq (L : LSt) (att tmo : Int) : t17 L att tmo =
    T.call 41 [AV.e (EV.s (SV.ptr 0 0)), AV.e (EV.s (SV.fn 42 [(2, 0), (3, 0)]))]
      [AB.cells 86
          [SV.d (Value.int IntKind.i64 L.room), SV.d (Value.int IntKind.u64 L.first), SV.d (Value.int IntKind.u64 L.next),
            SV.d (Value.int IntKind.i64 L.last), SV.mp 1],
        AB.pm L.es, AB.cells 3 [SV.d (Value.int IntKind.i64 att)], AB.cells 3 [SV.d (Value.int IntKind.i64 tmo)]]
      (T.go [] (t17 L att tmo)).kontC := by kernel_rfl


noncomputable def t19 (L : LSt) : T (AV × Heap) := callT Try.prog (entL e19) 2 19 [.e (.s (.ptr 0 0))] [.cells 86 (lc L 1), .pm L.es] fun r H' => .ret (r, H')

theorem t19_eq (L : LSt) : t19 L =
    T.call 41 [AV.e (EV.s (SV.ptr 0 0)), AV.e (EV.s (SV.fn 44 []))]
      [AB.cells 86
          [SV.d (Value.int IntKind.i64 L.room), SV.d (Value.int IntKind.u64 L.first), SV.d (Value.int IntKind.u64 L.next),
            SV.d (Value.int IntKind.i64 L.last), SV.mp 1],
        AB.pm L.es]
      (T.go [] (t19 L)).kontC := by kernel_rfl


end Go.Proofs.Ythckkoledhjmeaa.Ev
