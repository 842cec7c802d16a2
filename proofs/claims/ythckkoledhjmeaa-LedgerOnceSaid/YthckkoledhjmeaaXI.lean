/-
  The abstract evaluator's trees: the statement LedgerDoes.
-/
import Derived.Test.YthckkoledhjmeaaE3
namespace Go.Proofs.Ythckkoledhjmeaa.Ev
open Go

/-- A step of a script. -/
structure Stp where
  kind : Int
  mi : Int
  size : Int
  att : Int
  seq : Int

def Stp.vals (s : Stp) : List Value := [.int .i64 s.kind, .int .i64 s.mi, .int .i64 s.size, .int .i64 s.att, .int .u64 s.seq]
def stF (f : Nat → Stp) : Nat → List Value := fun j => (f j).vals

def e3 : List (Nat × Ent) := [(3, .body o3 0), (10, .summ s10), (11, .summ s11), (12, .summ s12), (13, .summ s13), (14, .summ s14), (15, .summ s15), (16, .summ s16), (17, .summ s17), (18, .summ s18), (19, .summ s19), (20, .body oN 0), (21, .body o21 0), (22, .summ s22)]

noncomputable def t3 (room first : Int) (ns z : Nat) (f : Nat → Stp) : T (AV × Heap) := callT Try.prog (entL e3) 2 3 [.d (.int .i64 room), .d (.int .u64 first), .e (.s (.sl 0 5 0 ns z))] [.ro 5 ns (stF f)] fun r H' => .ret (r, H')

theorem t3_eq (room first : Int) (ns z : Nat) (f : Nat → Stp) : t3 room first ns z f =
    T.ite (decide ((↑ns : Int) > 150)) (T.ret (AV.e (EV.s (SV.c (Value.bool true))), [AB.ro 5 ns (stF f)]))
      (T.ite (newB room)
        (T.ite (newB room)
          (T.code 1 (loopAt Try.prog 3 0).loop
            {
              fr :=
                [AV.e (EV.s (SV.d (Value.int IntKind.i64 room))), AV.e (EV.s (SV.d (Value.int IntKind.u64 first))),
                  AV.e (EV.s (SV.sl 0 5 0 ns z)), AV.tup [], AV.tup [], AV.tup [], AV.e (EV.s (SV.c (Value.bool false))),
                  AV.e (EV.s (SV.c (Value.pointer none))), AV.e (EV.s (SV.c (Value.int IntKind.i64 1))),
                  AV.e (EV.s (SV.c (Value.pointer none))), AV.e (EV.s (SV.c (Value.int IntKind.i64 1))),
                  AV.e (EV.s (SV.c (Value.int IntKind.i64 0))), AV.tup [], AV.tup [], AV.tup [], AV.tup [], AV.tup [],
                  AV.tup [], AV.tup [], AV.tup [], AV.tup [], AV.e (EV.s (SV.sl 0 5 0 ns z)),
                  AV.e (EV.s (SV.d (Value.int IntKind.i64 (↑ns : Int)))), AV.e (EV.s (SV.c (Value.bool false))),
                  AV.tup [EV.s (SV.c (Value.pointer none)), EV.s (SV.c (Value.int IntKind.i64 1))],
                  AV.e (EV.s (SV.d (Value.int IntKind.i64 room))), AV.e (EV.s (SV.d (Value.int IntKind.u64 first))),
                  AV.tup [EV.s (SV.c (Value.pointer none)), EV.s (SV.c (Value.int IntKind.i64 1))],
                  AV.e (EV.s (SV.c (Value.pointer none))), AV.e (EV.s (SV.c (Value.int IntKind.i64 1))),
                  AV.tup [EV.s (SV.c (Value.pointer none)), EV.s (SV.c (Value.int IntKind.i64 1))],
                  AV.e (EV.s (SV.d (Value.int IntKind.i64 room))), AV.e (EV.s (SV.d (Value.int IntKind.u64 first))),
                  AV.tup [EV.s (SV.c (Value.pointer none)), EV.s (SV.c (Value.int IntKind.i64 1))],
                  AV.e (EV.s (SV.c (Value.pointer none))), AV.e (EV.s (SV.c (Value.int IntKind.i64 1))),
                  AV.e (EV.s (SV.c (Value.int IntKind.i64 1))), AV.e (EV.s (SV.c (Value.int IntKind.i64 1))),
                  AV.e (EV.s (SV.c (Value.bool false))), AV.e (EV.s (SV.c (Value.bool false))),
                  AV.e (EV.s (SV.c (Value.pointer none))), AV.e (EV.s (SV.c (Value.bool true))),
                  AV.e (EV.s (SV.c (Value.pointer none))), AV.e (EV.s (SV.c (Value.bool true))),
                  AV.e (EV.s (SV.c (Value.bool false))), AV.e (EV.s (SV.c (Value.bool false))), AV.tup [], AV.tup [],
                  AV.tup [], AV.tup [], AV.tup [], AV.tup [], AV.tup [], AV.tup [], AV.tup [], AV.tup [], AV.tup [],
                  AV.tup [], AV.tup [], AV.tup [], AV.tup [], AV.tup [], AV.tup [], AV.tup [], AV.tup [], AV.tup [],
                  AV.tup [], AV.tup [], AV.tup [], AV.tup [], AV.tup [], AV.tup [], AV.tup [], AV.tup [], AV.tup [],
                  AV.tup [], AV.tup [], AV.tup [], AV.tup [], AV.tup [], AV.tup [], AV.tup [], AV.tup [], AV.tup [],
                  AV.tup [], AV.tup [], AV.tup [], AV.tup [], AV.tup [], AV.tup [], AV.tup [], AV.tup [], AV.tup [],
                  AV.tup [], AV.tup [], AV.tup [], AV.tup [], AV.tup [], AV.tup [], AV.tup [], AV.tup [], AV.tup [],
                  AV.tup [], AV.tup [], AV.tup [], AV.tup [], AV.tup [], AV.tup [], AV.tup [], AV.tup [], AV.tup [],
                  AV.tup [], AV.tup [], AV.tup [], AV.tup [], AV.tup [], AV.tup [], AV.tup [], AV.tup [], AV.tup [],
                  AV.tup [], AV.tup [], AV.tup [], AV.tup [], AV.tup [], AV.tup [], AV.tup [], AV.tup [], AV.tup [],
                  AV.tup [], AV.tup [], AV.tup [], AV.tup [], AV.tup [], AV.tup [], AV.tup [], AV.tup [], AV.tup [],
                  AV.tup [], AV.tup [], AV.tup [], AV.tup [], AV.tup [], AV.tup [], AV.tup [], AV.tup [], AV.tup [],
                  AV.tup [], AV.tup [], AV.tup [], AV.tup [], AV.tup [], AV.tup [], AV.tup [], AV.tup [], AV.tup [],
                  AV.tup [], AV.tup [], AV.tup [], AV.tup [], AV.tup [], AV.tup []],
              H := [AB.ro 5 ns (stF f)] : St }
            (T.go [false, true, true] (t3 room first ns z f)).kont)
          (T.ret (AV.e (EV.s (SV.c (Value.bool false))), [AB.ro 5 ns (stF f)])))
        (T.ite (newB room) (T.ret (AV.e (EV.s (SV.c (Value.bool false))), [AB.ro 5 ns (stF f)]))
          (T.code 1 (loopAt Try.prog 3 0).loop
            {
              fr :=
                [AV.e (EV.s (SV.d (Value.int IntKind.i64 room))), AV.e (EV.s (SV.d (Value.int IntKind.u64 first))),
                  AV.e (EV.s (SV.sl 0 5 0 ns z)), AV.tup [], AV.tup [], AV.tup [], AV.e (EV.s (SV.c (Value.bool false))),
                  AV.e (EV.s (SV.ptr 1 0)), AV.e (EV.s (SV.c (Value.int IntKind.i64 0))), AV.e (EV.s (SV.ptr 3 0)),
                  AV.e (EV.s (SV.c (Value.int IntKind.i64 0))), AV.e (EV.s (SV.c (Value.int IntKind.i64 0))), AV.tup [],
                  AV.tup [], AV.tup [], AV.tup [], AV.tup [], AV.tup [], AV.tup [], AV.tup [], AV.tup [],
                  AV.e (EV.s (SV.sl 0 5 0 ns z)), AV.e (EV.s (SV.d (Value.int IntKind.i64 (↑ns : Int)))),
                  AV.e (EV.s (SV.c (Value.bool false))), AV.tup [EV.s (SV.ptr 1 0), EV.s (SV.c (Value.int IntKind.i64 0))],
                  AV.e (EV.s (SV.d (Value.int IntKind.i64 room))), AV.e (EV.s (SV.d (Value.int IntKind.u64 first))),
                  AV.tup [EV.s (SV.ptr 1 0), EV.s (SV.c (Value.int IntKind.i64 0))], AV.e (EV.s (SV.ptr 1 0)),
                  AV.e (EV.s (SV.c (Value.int IntKind.i64 0))),
                  AV.tup [EV.s (SV.ptr 3 0), EV.s (SV.c (Value.int IntKind.i64 0))],
                  AV.e (EV.s (SV.d (Value.int IntKind.i64 room))), AV.e (EV.s (SV.d (Value.int IntKind.u64 first))),
                  AV.tup [EV.s (SV.ptr 3 0), EV.s (SV.c (Value.int IntKind.i64 0))], AV.e (EV.s (SV.ptr 3 0)),
                  AV.e (EV.s (SV.c (Value.int IntKind.i64 0))), AV.e (EV.s (SV.c (Value.int IntKind.i64 0))),
                  AV.e (EV.s (SV.c (Value.int IntKind.i64 0))), AV.e (EV.s (SV.c (Value.bool false))),
                  AV.e (EV.s (SV.c (Value.bool false))), AV.e (EV.s (SV.ptr 1 0)), AV.e (EV.s (SV.c (Value.bool false))),
                  AV.e (EV.s (SV.ptr 3 0)), AV.e (EV.s (SV.c (Value.bool false))), AV.e (EV.s (SV.c (Value.bool false))),
                  AV.e (EV.s (SV.c (Value.bool false))), AV.tup [], AV.tup [], AV.tup [], AV.tup [], AV.tup [], AV.tup [],
                  AV.tup [], AV.tup [], AV.tup [], AV.tup [], AV.tup [], AV.tup [], AV.tup [], AV.tup [], AV.tup [],
                  AV.tup [], AV.tup [], AV.tup [], AV.tup [], AV.tup [], AV.tup [], AV.tup [], AV.tup [], AV.tup [],
                  AV.tup [], AV.tup [], AV.tup [], AV.tup [], AV.tup [], AV.tup [], AV.tup [], AV.tup [], AV.tup [],
                  AV.tup [], AV.tup [], AV.tup [], AV.tup [], AV.tup [], AV.tup [], AV.tup [], AV.tup [], AV.tup [],
                  AV.tup [], AV.tup [], AV.tup [], AV.tup [], AV.tup [], AV.tup [], AV.tup [], AV.tup [], AV.tup [],
                  AV.tup [], AV.tup [], AV.tup [], AV.tup [], AV.tup [], AV.tup [], AV.tup [], AV.tup [], AV.tup [],
                  AV.tup [], AV.tup [], AV.tup [], AV.tup [], AV.tup [], AV.tup [], AV.tup [], AV.tup [], AV.tup [],
                  AV.tup [], AV.tup [], AV.tup [], AV.tup [], AV.tup [], AV.tup [], AV.tup [], AV.tup [], AV.tup [],
                  AV.tup [], AV.tup [], AV.tup [], AV.tup [], AV.tup [], AV.tup [], AV.tup [], AV.tup [], AV.tup [],
                  AV.tup [], AV.tup [], AV.tup [], AV.tup [], AV.tup [], AV.tup [], AV.tup [], AV.tup [], AV.tup [],
                  AV.tup [], AV.tup [], AV.tup [], AV.tup [], AV.tup [], AV.tup [], AV.tup [], AV.tup [], AV.tup [],
                  AV.tup [], AV.tup [], AV.tup [], AV.tup [], AV.tup [], AV.tup [], AV.tup [], AV.tup [], AV.tup [],
                  AV.tup [], AV.tup []],
              H :=
                [AB.ro 5 ns (stF f),
                  AB.cells 86
                    [SV.d (Value.int IntKind.i64 (newL room first).room),
                      SV.d (Value.int IntKind.u64 (newL room first).first),
                      SV.d (Value.int IntKind.u64 (newL room first).next), SV.d (Value.int IntKind.i64 0), SV.mp 2],
                  AB.pm [],
                  AB.cells 44
                    [SV.d (Value.int IntKind.i64 (newL room first).room),
                      SV.d (Value.int IntKind.u64 (newL room first).first),
                      SV.d (Value.int IntKind.u64 (newL room first).next), SV.d (Value.int IntKind.i64 0), SV.sl 4 4 0 0 0],
                  AB.row 36 4 0 (pkG [])] :
              St }
            (T.go [false, false, false] (t3 room first ns z f)).kont))) := by kernel_rfl


def H3 (ns : Nat) (f : Nat → Stp) (L : LSt) : Heap := [.ro 5 ns (stF f), .cells 86 (lc L 2), .pm L.es, .cells 44 (rc L 4 L.es.length), .row 36 4 L.es.length (pkG L.es)]
def x3 (room : Int) (ns z : Nat) (i : Int) : List AV := [.d (.int .i64 room), .e (.s (.sl 0 5 0 ns z)), .e (.s (.ptr 1 0)), .e (.s (.ptr 3 0)), .d (.int .i64 i)]

noncomputable def t3b (room : Int) (ns z : Nat) (f : Nat → Stp) (L : LSt) (i : Int) (vs : Nat → Value) : T (Exit × List AV × Heap) := bodyT Try.prog e3 1 o3 1 (loopAt Try.prog 3 0) [0, 2, 7, 9, 11] 162 (x3 room ns z i) (H3 ns f L) vs

theorem t3b_eq (room : Int) (ns z : Nat) (f : Nat → Stp) (L : LSt) (i : Int) (vs : Nat → Value) : t3b room ns z f L i vs =
    T.ite (decide (i < (↑ns : Int)))
      (T.need (0 ≤ i ∧ i < (↑ns : Int))
        (T.need (0 + i.toNat < ns)
          (T.ite ((f (0 + i.toNat)).kind == 0)
            (T.need L.Ok
              (T.need
                ((L.es.length = L.es.length ∧ PkRow L.es.length (pkG L.es)) ∧
                  { room := L.room, first := L.first, next := L.next, last := L.last, es := rowPk L.es.length (pkG L.es) :
                      LSt }.Ok)
                (T.ite
                  (sendN L (f (0 + i.toNat)).mi (f (0 + i.toNat)).size (f (0 + i.toNat)).att !=
                    sendN
                      { room := L.room, first := L.first, next := L.next, last := L.last,
                        es := rowPk L.es.length (pkG L.es) : LSt }
                      (f (0 + i.toNat)).mi (f (0 + i.toNat)).size (f (0 + i.toNat)).att)
                  (T.ret
                    (Exit.ret,
                      [AV.e (EV.s (SV.d (Value.int IntKind.i64 room))), AV.e (EV.s (SV.sl 0 5 0 ns z)),
                        AV.e (EV.s (SV.ptr 1 0)), AV.e (EV.s (SV.ptr 3 0)), AV.e (EV.s (SV.d (Value.int IntKind.i64 i)))],
                      [AB.ro 5 ns (stF f),
                        AB.cells 86
                          [SV.d
                              (Value.int IntKind.i64
                                (sendL L (f (0 + i.toNat)).mi (f (0 + i.toNat)).size (f (0 + i.toNat)).att).room),
                            SV.d
                              (Value.int IntKind.u64
                                (sendL L (f (0 + i.toNat)).mi (f (0 + i.toNat)).size (f (0 + i.toNat)).att).first),
                            SV.d
                              (Value.int IntKind.u64
                                (sendL L (f (0 + i.toNat)).mi (f (0 + i.toNat)).size (f (0 + i.toNat)).att).next),
                            SV.d
                              (Value.int IntKind.i64
                                (sendL L (f (0 + i.toNat)).mi (f (0 + i.toNat)).size (f (0 + i.toNat)).att).last),
                            SV.mp 2],
                        AB.pm (sendL L (f (0 + i.toNat)).mi (f (0 + i.toNat)).size (f (0 + i.toNat)).att).es,
                        AB.cells 44
                          [SV.d
                              (Value.int IntKind.i64
                                (sendL
                                    { room := L.room, first := L.first, next := L.next, last := L.last,
                                      es := rowPk L.es.length (pkG L.es) : LSt }
                                    (f (0 + i.toNat)).mi (f (0 + i.toNat)).size (f (0 + i.toNat)).att).room),
                            SV.d
                              (Value.int IntKind.u64
                                (sendL
                                    { room := L.room, first := L.first, next := L.next, last := L.last,
                                      es := rowPk L.es.length (pkG L.es) : LSt }
                                    (f (0 + i.toNat)).mi (f (0 + i.toNat)).size (f (0 + i.toNat)).att).first),
                            SV.d
                              (Value.int IntKind.u64
                                (sendL
                                    { room := L.room, first := L.first, next := L.next, last := L.last,
                                      es := rowPk L.es.length (pkG L.es) : LSt }
                                    (f (0 + i.toNat)).mi (f (0 + i.toNat)).size (f (0 + i.toNat)).att).next),
                            SV.d
                              (Value.int IntKind.i64
                                (sendL
                                    { room := L.room, first := L.first, next := L.next, last := L.last,
                                      es := rowPk L.es.length (pkG L.es) : LSt }
                                    (f (0 + i.toNat)).mi (f (0 + i.toNat)).size (f (0 + i.toNat)).att).last),
                            SV.sl 6 4 0
                              (sendL
                                    { room := L.room, first := L.first, next := L.next, last := L.last,
                                      es := rowPk L.es.length (pkG L.es) : LSt }
                                    (f (0 + i.toNat)).mi (f (0 + i.toNat)).size (f (0 + i.toNat)).att).es.length
                              0],
                        AB.dead,
                        AB.cells 32
                          [SV.d (Value.int IntKind.i64 (f (0 + i.toNat)).kind),
                            SV.d (Value.int IntKind.i64 (f (0 + i.toNat)).mi),
                            SV.d (Value.int IntKind.i64 (f (0 + i.toNat)).size),
                            SV.d (Value.int IntKind.i64 (f (0 + i.toNat)).att),
                            SV.d (Value.int IntKind.u64 (f (0 + i.toNat)).seq)],
                        AB.row 36 4
                          (sendL
                                { room := L.room, first := L.first, next := L.next, last := L.last,
                                  es := rowPk L.es.length (pkG L.es) : LSt }
                                (f (0 + i.toNat)).mi (f (0 + i.toNat)).size (f (0 + i.toNat)).att).es.length
                          (pkG
                            (sendL
                                { room := L.room, first := L.first, next := L.next, last := L.last,
                                  es := rowPk L.es.length (pkG L.es) : LSt }
                                (f (0 + i.toNat)).mi (f (0 + i.toNat)).size (f (0 + i.toNat)).att).es)]))
                  (T.ite
                    (sendE L (f (0 + i.toNat)).mi (f (0 + i.toNat)).size (f (0 + i.toNat)).att !=
                      sendE
                        { room := L.room, first := L.first, next := L.next, last := L.last,
                          es := rowPk L.es.length (pkG L.es) : LSt }
                        (f (0 + i.toNat)).mi (f (0 + i.toNat)).size (f (0 + i.toNat)).att)
                    (T.ret
                      (Exit.ret,
                        [AV.e (EV.s (SV.d (Value.int IntKind.i64 room))), AV.e (EV.s (SV.sl 0 5 0 ns z)),
                          AV.e (EV.s (SV.ptr 1 0)), AV.e (EV.s (SV.ptr 3 0)), AV.e (EV.s (SV.d (Value.int IntKind.i64 i)))],
                        [AB.ro 5 ns (stF f),
                          AB.cells 86
                            [SV.d
                                (Value.int IntKind.i64
                                  (sendL L (f (0 + i.toNat)).mi (f (0 + i.toNat)).size (f (0 + i.toNat)).att).room),
                              SV.d
                                (Value.int IntKind.u64
                                  (sendL L (f (0 + i.toNat)).mi (f (0 + i.toNat)).size (f (0 + i.toNat)).att).first),
                              SV.d
                                (Value.int IntKind.u64
                                  (sendL L (f (0 + i.toNat)).mi (f (0 + i.toNat)).size (f (0 + i.toNat)).att).next),
                              SV.d
                                (Value.int IntKind.i64
                                  (sendL L (f (0 + i.toNat)).mi (f (0 + i.toNat)).size (f (0 + i.toNat)).att).last),
                              SV.mp 2],
                          AB.pm (sendL L (f (0 + i.toNat)).mi (f (0 + i.toNat)).size (f (0 + i.toNat)).att).es,
                          AB.cells 44
                            [SV.d
                                (Value.int IntKind.i64
                                  (sendL
                                      { room := L.room, first := L.first, next := L.next, last := L.last,
                                        es := rowPk L.es.length (pkG L.es) : LSt }
                                      (f (0 + i.toNat)).mi (f (0 + i.toNat)).size (f (0 + i.toNat)).att).room),
                              SV.d
                                (Value.int IntKind.u64
                                  (sendL
                                      { room := L.room, first := L.first, next := L.next, last := L.last,
                                        es := rowPk L.es.length (pkG L.es) : LSt }
                                      (f (0 + i.toNat)).mi (f (0 + i.toNat)).size (f (0 + i.toNat)).att).first),
                              SV.d
                                (Value.int IntKind.u64
                                  (sendL
                                      { room := L.room, first := L.first, next := L.next, last := L.last,
                                        es := rowPk L.es.length (pkG L.es) : LSt }
                                      (f (0 + i.toNat)).mi (f (0 + i.toNat)).size (f (0 + i.toNat)).att).next),
                              SV.d
                                (Value.int IntKind.i64
                                  (sendL
                                      { room := L.room, first := L.first, next := L.next, last := L.last,
                                        es := rowPk L.es.length (pkG L.es) : LSt }
                                      (f (0 + i.toNat)).mi (f (0 + i.toNat)).size (f (0 + i.toNat)).att).last),
                              SV.sl 6 4 0
                                (sendL
                                      { room := L.room, first := L.first, next := L.next, last := L.last,
                                        es := rowPk L.es.length (pkG L.es) : LSt }
                                      (f (0 + i.toNat)).mi (f (0 + i.toNat)).size (f (0 + i.toNat)).att).es.length
                                0],
                          AB.dead,
                          AB.cells 32
                            [SV.d (Value.int IntKind.i64 (f (0 + i.toNat)).kind),
                              SV.d (Value.int IntKind.i64 (f (0 + i.toNat)).mi),
                              SV.d (Value.int IntKind.i64 (f (0 + i.toNat)).size),
                              SV.d (Value.int IntKind.i64 (f (0 + i.toNat)).att),
                              SV.d (Value.int IntKind.u64 (f (0 + i.toNat)).seq)],
                          AB.row 36 4
                            (sendL
                                  { room := L.room, first := L.first, next := L.next, last := L.last,
                                    es := rowPk L.es.length (pkG L.es) : LSt }
                                  (f (0 + i.toNat)).mi (f (0 + i.toNat)).size (f (0 + i.toNat)).att).es.length
                            (pkG
                              (sendL
                                  { room := L.room, first := L.first, next := L.next, last := L.last,
                                    es := rowPk L.es.length (pkG L.es) : LSt }
                                  (f (0 + i.toNat)).mi (f (0 + i.toNat)).size (f (0 + i.toNat)).att).es)]))
                    (T.need (sendL L (f (0 + i.toNat)).mi (f (0 + i.toNat)).size (f (0 + i.toNat)).att).Ok
                      (T.need
                        (some
                            (AB.cells 44
                              [SV.d
                                  (Value.int IntKind.i64
                                    (sendL
                                        { room := L.room, first := L.first, next := L.next, last := L.last,
                                          es := rowPk L.es.length (pkG L.es) : LSt }
                                        (f (0 + i.toNat)).mi (f (0 + i.toNat)).size (f (0 + i.toNat)).att).room),
                                SV.d
                                  (Value.int IntKind.u64
                                    (sendL
                                        { room := L.room, first := L.first, next := L.next, last := L.last,
                                          es := rowPk L.es.length (pkG L.es) : LSt }
                                        (f (0 + i.toNat)).mi (f (0 + i.toNat)).size (f (0 + i.toNat)).att).first),
                                SV.d
                                  (Value.int IntKind.u64
                                    (sendL
                                        { room := L.room, first := L.first, next := L.next, last := L.last,
                                          es := rowPk L.es.length (pkG L.es) : LSt }
                                        (f (0 + i.toNat)).mi (f (0 + i.toNat)).size (f (0 + i.toNat)).att).next),
                                SV.d
                                  (Value.int IntKind.i64
                                    (sendL
                                        { room := L.room, first := L.first, next := L.next, last := L.last,
                                          es := rowPk L.es.length (pkG L.es) : LSt }
                                        (f (0 + i.toNat)).mi (f (0 + i.toNat)).size (f (0 + i.toNat)).att).last),
                                SV.sl 6 4 0
                                  (sendL
                                        { room := L.room, first := L.first, next := L.next, last := L.last,
                                          es := rowPk L.es.length (pkG L.es) : LSt }
                                        (f (0 + i.toNat)).mi (f (0 + i.toNat)).size (f (0 + i.toNat)).att).es.length
                                  0]) =
                          some
                            (AB.cells 44
                              [SV.d
                                  (Value.int IntKind.i64
                                    (sendL
                                        { room := L.room, first := L.first, next := L.next, last := L.last,
                                          es := rowPk L.es.length (pkG L.es) : LSt }
                                        (f (0 + i.toNat)).mi (f (0 + i.toNat)).size (f (0 + i.toNat)).att).room),
                                SV.d
                                  (Value.int IntKind.u64
                                    (sendL
                                        { room := L.room, first := L.first, next := L.next, last := L.last,
                                          es := rowPk L.es.length (pkG L.es) : LSt }
                                        (f (0 + i.toNat)).mi (f (0 + i.toNat)).size (f (0 + i.toNat)).att).first),
                                SV.d
                                  (Value.int IntKind.u64
                                    (sendL
                                        { room := L.room, first := L.first, next := L.next, last := L.last,
                                          es := rowPk L.es.length (pkG L.es) : LSt }
                                        (f (0 + i.toNat)).mi (f (0 + i.toNat)).size (f (0 + i.toNat)).att).next),
                                SV.d
                                  (Value.int IntKind.i64
                                    (sendL
                                        { room := L.room, first := L.first, next := L.next, last := L.last,
                                          es := rowPk L.es.length (pkG L.es) : LSt }
                                        (f (0 + i.toNat)).mi (f (0 + i.toNat)).size (f (0 + i.toNat)).att).last),
                                SV.sl 6 4 0
                                  (sendL
                                        { room := L.room, first := L.first, next := L.next, last := L.last,
                                          es := rowPk L.es.length (pkG L.es) : LSt }
                                        (f (0 + i.toNat)).mi (f (0 + i.toNat)).size (f (0 + i.toNat)).att).es.length
                                  0]))
                        (T.need
                          ((0 + (sendL L (f (0 + i.toNat)).mi (f (0 + i.toNat)).size (f (0 + i.toNat)).att).es.length ≤
                                (sendL L (f (0 + i.toNat)).mi (f (0 + i.toNat)).size (f (0 + i.toNat)).att).es.length ∧
                              0 +
                                    (sendL
                                          { room := L.room, first := L.first, next := L.next, last := L.last,
                                            es := rowPk L.es.length (pkG L.es) : LSt }
                                          (f (0 + i.toNat)).mi (f (0 + i.toNat)).size (f (0 + i.toNat)).att).es.length ≤
                                  (sendL
                                        { room := L.room, first := L.first, next := L.next, last := L.last,
                                          es := rowPk L.es.length (pkG L.es) : LSt }
                                        (f (0 + i.toNat)).mi (f (0 + i.toNat)).size (f (0 + i.toNat)).att).es.length ∧
                                (sendL L (f (0 + i.toNat)).mi (f (0 + i.toNat)).size (f (0 + i.toNat)).att).es.length ≤
                                  most) ∧
                            PkRow (sendL L (f (0 + i.toNat)).mi (f (0 + i.toNat)).size (f (0 + i.toNat)).att).es.length
                                (pkG (sendL L (f (0 + i.toNat)).mi (f (0 + i.toNat)).size (f (0 + i.toNat)).att).es) ∧
                              PkRow
                                (sendL
                                      { room := L.room, first := L.first, next := L.next, last := L.last,
                                        es := rowPk L.es.length (pkG L.es) : LSt }
                                      (f (0 + i.toNat)).mi (f (0 + i.toNat)).size (f (0 + i.toNat)).att).es.length
                                (pkG
                                  (sendL
                                      { room := L.room, first := L.first, next := L.next, last := L.last,
                                        es := rowPk L.es.length (pkG L.es) : LSt }
                                      (f (0 + i.toNat)).mi (f (0 + i.toNat)).size (f (0 + i.toNat)).att).es))
                          (T.ite
                            (samePk (sendL L (f (0 + i.toNat)).mi (f (0 + i.toNat)).size (f (0 + i.toNat)).att).es.length
                              (fun x =>
                                decPkt
                                  (pkG (sendL L (f (0 + i.toNat)).mi (f (0 + i.toNat)).size (f (0 + i.toNat)).att).es
                                    (0 + x)))
                              (sendL
                                    { room := L.room, first := L.first, next := L.next, last := L.last,
                                      es := rowPk L.es.length (pkG L.es) : LSt }
                                    (f (0 + i.toNat)).mi (f (0 + i.toNat)).size (f (0 + i.toNat)).att).es.length
                              fun x =>
                              decPkt
                                (pkG
                                  (sendL
                                      { room := L.room, first := L.first, next := L.next, last := L.last,
                                        es := rowPk L.es.length (pkG L.es) : LSt }
                                      (f (0 + i.toNat)).mi (f (0 + i.toNat)).size (f (0 + i.toNat)).att).es
                                  (0 + x)))
                            (T.need
                              (some
                                  (AB.cells 44
                                    [SV.d
                                        (Value.int IntKind.i64
                                          (sendL
                                              { room := L.room, first := L.first, next := L.next, last := L.last,
                                                es := rowPk L.es.length (pkG L.es) : LSt }
                                              (f (0 + i.toNat)).mi (f (0 + i.toNat)).size (f (0 + i.toNat)).att).room),
                                      SV.d
                                        (Value.int IntKind.u64
                                          (sendL
                                              { room := L.room, first := L.first, next := L.next, last := L.last,
                                                es := rowPk L.es.length (pkG L.es) : LSt }
                                              (f (0 + i.toNat)).mi (f (0 + i.toNat)).size (f (0 + i.toNat)).att).first),
                                      SV.d
                                        (Value.int IntKind.u64
                                          (sendL
                                              { room := L.room, first := L.first, next := L.next, last := L.last,
                                                es := rowPk L.es.length (pkG L.es) : LSt }
                                              (f (0 + i.toNat)).mi (f (0 + i.toNat)).size (f (0 + i.toNat)).att).next),
                                      SV.d
                                        (Value.int IntKind.i64
                                          (sendL
                                              { room := L.room, first := L.first, next := L.next, last := L.last,
                                                es := rowPk L.es.length (pkG L.es) : LSt }
                                              (f (0 + i.toNat)).mi (f (0 + i.toNat)).size (f (0 + i.toNat)).att).last),
                                      SV.sl 6 4 0
                                        (sendL
                                              { room := L.room, first := L.first, next := L.next, last := L.last,
                                                es := rowPk L.es.length (pkG L.es) : LSt }
                                              (f (0 + i.toNat)).mi (f (0 + i.toNat)).size (f (0 + i.toNat)).att).es.length
                                        0]) =
                                some
                                  (AB.cells 44
                                    [SV.d
                                        (Value.int IntKind.i64
                                          (sendL
                                              { room := L.room, first := L.first, next := L.next, last := L.last,
                                                es := rowPk L.es.length (pkG L.es) : LSt }
                                              (f (0 + i.toNat)).mi (f (0 + i.toNat)).size (f (0 + i.toNat)).att).room),
                                      SV.d
                                        (Value.int IntKind.u64
                                          (sendL
                                              { room := L.room, first := L.first, next := L.next, last := L.last,
                                                es := rowPk L.es.length (pkG L.es) : LSt }
                                              (f (0 + i.toNat)).mi (f (0 + i.toNat)).size (f (0 + i.toNat)).att).first),
                                      SV.d
                                        (Value.int IntKind.u64
                                          (sendL
                                              { room := L.room, first := L.first, next := L.next, last := L.last,
                                                es := rowPk L.es.length (pkG L.es) : LSt }
                                              (f (0 + i.toNat)).mi (f (0 + i.toNat)).size (f (0 + i.toNat)).att).next),
                                      SV.d
                                        (Value.int IntKind.i64
                                          (sendL
                                              { room := L.room, first := L.first, next := L.next, last := L.last,
                                                es := rowPk L.es.length (pkG L.es) : LSt }
                                              (f (0 + i.toNat)).mi (f (0 + i.toNat)).size (f (0 + i.toNat)).att).last),
                                      SV.sl 6 4 0
                                        (sendL
                                              { room := L.room, first := L.first, next := L.next, last := L.last,
                                                es := rowPk L.es.length (pkG L.es) : LSt }
                                              (f (0 + i.toNat)).mi (f (0 + i.toNat)).size (f (0 + i.toNat)).att).es.length
                                        0]))
                              (T.ite
                                ((sendL L (f (0 + i.toNat)).mi (f (0 + i.toNat)).size (f (0 + i.toNat)).att).next !=
                                  (sendL
                                      { room := L.room, first := L.first, next := L.next, last := L.last,
                                        es := rowPk L.es.length (pkG L.es) : LSt }
                                      (f (0 + i.toNat)).mi (f (0 + i.toNat)).size (f (0 + i.toNat)).att).next)
                                (T.ret
                                  (Exit.ret,
                                    [AV.e (EV.s (SV.d (Value.int IntKind.i64 room))), AV.e (EV.s (SV.sl 0 5 0 ns z)),
                                      AV.e (EV.s (SV.ptr 1 0)), AV.e (EV.s (SV.ptr 3 0)),
                                      AV.e (EV.s (SV.d (Value.int IntKind.i64 i)))],
                                    [AB.ro 5 ns (stF f),
                                      AB.cells 86
                                        [SV.d
                                            (Value.int IntKind.i64
                                              (sendL L (f (0 + i.toNat)).mi (f (0 + i.toNat)).size
                                                  (f (0 + i.toNat)).att).room),
                                          SV.d
                                            (Value.int IntKind.u64
                                              (sendL L (f (0 + i.toNat)).mi (f (0 + i.toNat)).size
                                                  (f (0 + i.toNat)).att).first),
                                          SV.d
                                            (Value.int IntKind.u64
                                              (sendL L (f (0 + i.toNat)).mi (f (0 + i.toNat)).size
                                                  (f (0 + i.toNat)).att).next),
                                          SV.d
                                            (Value.int IntKind.i64
                                              (sendL L (f (0 + i.toNat)).mi (f (0 + i.toNat)).size
                                                  (f (0 + i.toNat)).att).last),
                                          SV.mp 2],
                                      AB.pm (sendL L (f (0 + i.toNat)).mi (f (0 + i.toNat)).size (f (0 + i.toNat)).att).es,
                                      AB.cells 44
                                        [SV.d
                                            (Value.int IntKind.i64
                                              (sendL
                                                  { room := L.room, first := L.first, next := L.next, last := L.last,
                                                    es := rowPk L.es.length (pkG L.es) : LSt }
                                                  (f (0 + i.toNat)).mi (f (0 + i.toNat)).size (f (0 + i.toNat)).att).room),
                                          SV.d
                                            (Value.int IntKind.u64
                                              (sendL
                                                  { room := L.room, first := L.first, next := L.next, last := L.last,
                                                    es := rowPk L.es.length (pkG L.es) : LSt }
                                                  (f (0 + i.toNat)).mi (f (0 + i.toNat)).size (f (0 + i.toNat)).att).first),
                                          SV.d
                                            (Value.int IntKind.u64
                                              (sendL
                                                  { room := L.room, first := L.first, next := L.next, last := L.last,
                                                    es := rowPk L.es.length (pkG L.es) : LSt }
                                                  (f (0 + i.toNat)).mi (f (0 + i.toNat)).size (f (0 + i.toNat)).att).next),
                                          SV.d
                                            (Value.int IntKind.i64
                                              (sendL
                                                  { room := L.room, first := L.first, next := L.next, last := L.last,
                                                    es := rowPk L.es.length (pkG L.es) : LSt }
                                                  (f (0 + i.toNat)).mi (f (0 + i.toNat)).size (f (0 + i.toNat)).att).last),
                                          SV.sl 6 4 0
                                            (sendL
                                                  { room := L.room, first := L.first, next := L.next, last := L.last,
                                                    es := rowPk L.es.length (pkG L.es) : LSt }
                                                  (f (0 + i.toNat)).mi (f (0 + i.toNat)).size
                                                  (f (0 + i.toNat)).att).es.length
                                            0],
                                      AB.dead,
                                      AB.cells 32
                                        [SV.d (Value.int IntKind.i64 (f (0 + i.toNat)).kind),
                                          SV.d (Value.int IntKind.i64 (f (0 + i.toNat)).mi),
                                          SV.d (Value.int IntKind.i64 (f (0 + i.toNat)).size),
                                          SV.d (Value.int IntKind.i64 (f (0 + i.toNat)).att),
                                          SV.d (Value.int IntKind.u64 (f (0 + i.toNat)).seq)],
                                      AB.row 36 4
                                        (sendL
                                              { room := L.room, first := L.first, next := L.next, last := L.last,
                                                es := rowPk L.es.length (pkG L.es) : LSt }
                                              (f (0 + i.toNat)).mi (f (0 + i.toNat)).size (f (0 + i.toNat)).att).es.length
                                        (pkG
                                          (sendL
                                              { room := L.room, first := L.first, next := L.next, last := L.last,
                                                es := rowPk L.es.length (pkG L.es) : LSt }
                                              (f (0 + i.toNat)).mi (f (0 + i.toNat)).size (f (0 + i.toNat)).att).es),
                                      AB.row 36 4
                                        (sendL L (f (0 + i.toNat)).mi (f (0 + i.toNat)).size
                                              (f (0 + i.toNat)).att).es.length
                                        (pkG
                                          (sendL L (f (0 + i.toNat)).mi (f (0 + i.toNat)).size (f (0 + i.toNat)).att).es)]))
                                (T.need
                                  (some
                                      (AB.cells 44
                                        [SV.d
                                            (Value.int IntKind.i64
                                              (sendL
                                                  { room := L.room, first := L.first, next := L.next, last := L.last,
                                                    es := rowPk L.es.length (pkG L.es) : LSt }
                                                  (f (0 + i.toNat)).mi (f (0 + i.toNat)).size (f (0 + i.toNat)).att).room),
                                          SV.d
                                            (Value.int IntKind.u64
                                              (sendL
                                                  { room := L.room, first := L.first, next := L.next, last := L.last,
                                                    es := rowPk L.es.length (pkG L.es) : LSt }
                                                  (f (0 + i.toNat)).mi (f (0 + i.toNat)).size (f (0 + i.toNat)).att).first),
                                          SV.d
                                            (Value.int IntKind.u64
                                              (sendL
                                                  { room := L.room, first := L.first, next := L.next, last := L.last,
                                                    es := rowPk L.es.length (pkG L.es) : LSt }
                                                  (f (0 + i.toNat)).mi (f (0 + i.toNat)).size (f (0 + i.toNat)).att).next),
                                          SV.d
                                            (Value.int IntKind.i64
                                              (sendL
                                                  { room := L.room, first := L.first, next := L.next, last := L.last,
                                                    es := rowPk L.es.length (pkG L.es) : LSt }
                                                  (f (0 + i.toNat)).mi (f (0 + i.toNat)).size (f (0 + i.toNat)).att).last),
                                          SV.sl 6 4 0
                                            (sendL
                                                  { room := L.room, first := L.first, next := L.next, last := L.last,
                                                    es := rowPk L.es.length (pkG L.es) : LSt }
                                                  (f (0 + i.toNat)).mi (f (0 + i.toNat)).size
                                                  (f (0 + i.toNat)).att).es.length
                                            0]) =
                                    some
                                      (AB.cells 44
                                        [SV.d
                                            (Value.int IntKind.i64
                                              (sendL
                                                  { room := L.room, first := L.first, next := L.next, last := L.last,
                                                    es := rowPk L.es.length (pkG L.es) : LSt }
                                                  (f (0 + i.toNat)).mi (f (0 + i.toNat)).size (f (0 + i.toNat)).att).room),
                                          SV.d
                                            (Value.int IntKind.u64
                                              (sendL
                                                  { room := L.room, first := L.first, next := L.next, last := L.last,
                                                    es := rowPk L.es.length (pkG L.es) : LSt }
                                                  (f (0 + i.toNat)).mi (f (0 + i.toNat)).size (f (0 + i.toNat)).att).first),
                                          SV.d
                                            (Value.int IntKind.u64
                                              (sendL
                                                  { room := L.room, first := L.first, next := L.next, last := L.last,
                                                    es := rowPk L.es.length (pkG L.es) : LSt }
                                                  (f (0 + i.toNat)).mi (f (0 + i.toNat)).size (f (0 + i.toNat)).att).next),
                                          SV.d
                                            (Value.int IntKind.i64
                                              (sendL
                                                  { room := L.room, first := L.first, next := L.next, last := L.last,
                                                    es := rowPk L.es.length (pkG L.es) : LSt }
                                                  (f (0 + i.toNat)).mi (f (0 + i.toNat)).size (f (0 + i.toNat)).att).last),
                                          SV.sl 6 4 0
                                            (sendL
                                                  { room := L.room, first := L.first, next := L.next, last := L.last,
                                                    es := rowPk L.es.length (pkG L.es) : LSt }
                                                  (f (0 + i.toNat)).mi (f (0 + i.toNat)).size
                                                  (f (0 + i.toNat)).att).es.length
                                            0]))
                                  (T.ite
                                    (IntKind.i64.wrap
                                        ((sendL L (f (0 + i.toNat)).mi (f (0 + i.toNat)).size (f (0 + i.toNat)).att).room -
                                          (↑(sendL L (f (0 + i.toNat)).mi (f (0 + i.toNat)).size
                                                    (f (0 + i.toNat)).att).es.length :
                                            Int)) !=
                                      IntKind.i64.wrap
                                        (room -
                                          (↑(sendL
                                                    { room := L.room, first := L.first, next := L.next, last := L.last,
                                                      es := rowPk L.es.length (pkG L.es) : LSt }
                                                    (f (0 + i.toNat)).mi (f (0 + i.toNat)).size
                                                    (f (0 + i.toNat)).att).es.length :
                                            Int)))
                                    (T.ret
                                      (Exit.ret,
                                        [AV.e (EV.s (SV.d (Value.int IntKind.i64 room))), AV.e (EV.s (SV.sl 0 5 0 ns z)),
                                          AV.e (EV.s (SV.ptr 1 0)), AV.e (EV.s (SV.ptr 3 0)),
                                          AV.e (EV.s (SV.d (Value.int IntKind.i64 i)))],
                                        [AB.ro 5 ns (stF f),
                                          AB.cells 86
                                            [SV.d
                                                (Value.int IntKind.i64
                                                  (sendL L (f (0 + i.toNat)).mi (f (0 + i.toNat)).size
                                                      (f (0 + i.toNat)).att).room),
                                              SV.d
                                                (Value.int IntKind.u64
                                                  (sendL L (f (0 + i.toNat)).mi (f (0 + i.toNat)).size
                                                      (f (0 + i.toNat)).att).first),
                                              SV.d
                                                (Value.int IntKind.u64
                                                  (sendL L (f (0 + i.toNat)).mi (f (0 + i.toNat)).size
                                                      (f (0 + i.toNat)).att).next),
                                              SV.d
                                                (Value.int IntKind.i64
                                                  (sendL L (f (0 + i.toNat)).mi (f (0 + i.toNat)).size
                                                      (f (0 + i.toNat)).att).last),
                                              SV.mp 2],
                                          AB.pm
                                            (sendL L (f (0 + i.toNat)).mi (f (0 + i.toNat)).size (f (0 + i.toNat)).att).es,
                                          AB.cells 44
                                            [SV.d
                                                (Value.int IntKind.i64
                                                  (sendL
                                                      { room := L.room, first := L.first, next := L.next, last := L.last,
                                                        es := rowPk L.es.length (pkG L.es) : LSt }
                                                      (f (0 + i.toNat)).mi (f (0 + i.toNat)).size
                                                      (f (0 + i.toNat)).att).room),
                                              SV.d
                                                (Value.int IntKind.u64
                                                  (sendL
                                                      { room := L.room, first := L.first, next := L.next, last := L.last,
                                                        es := rowPk L.es.length (pkG L.es) : LSt }
                                                      (f (0 + i.toNat)).mi (f (0 + i.toNat)).size
                                                      (f (0 + i.toNat)).att).first),
                                              SV.d
                                                (Value.int IntKind.u64
                                                  (sendL
                                                      { room := L.room, first := L.first, next := L.next, last := L.last,
                                                        es := rowPk L.es.length (pkG L.es) : LSt }
                                                      (f (0 + i.toNat)).mi (f (0 + i.toNat)).size
                                                      (f (0 + i.toNat)).att).next),
                                              SV.d
                                                (Value.int IntKind.i64
                                                  (sendL
                                                      { room := L.room, first := L.first, next := L.next, last := L.last,
                                                        es := rowPk L.es.length (pkG L.es) : LSt }
                                                      (f (0 + i.toNat)).mi (f (0 + i.toNat)).size
                                                      (f (0 + i.toNat)).att).last),
                                              SV.sl 6 4 0
                                                (sendL
                                                      { room := L.room, first := L.first, next := L.next, last := L.last,
                                                        es := rowPk L.es.length (pkG L.es) : LSt }
                                                      (f (0 + i.toNat)).mi (f (0 + i.toNat)).size
                                                      (f (0 + i.toNat)).att).es.length
                                                0],
                                          AB.dead,
                                          AB.cells 32
                                            [SV.d (Value.int IntKind.i64 (f (0 + i.toNat)).kind),
                                              SV.d (Value.int IntKind.i64 (f (0 + i.toNat)).mi),
                                              SV.d (Value.int IntKind.i64 (f (0 + i.toNat)).size),
                                              SV.d (Value.int IntKind.i64 (f (0 + i.toNat)).att),
                                              SV.d (Value.int IntKind.u64 (f (0 + i.toNat)).seq)],
                                          AB.row 36 4
                                            (sendL
                                                  { room := L.room, first := L.first, next := L.next, last := L.last,
                                                    es := rowPk L.es.length (pkG L.es) : LSt }
                                                  (f (0 + i.toNat)).mi (f (0 + i.toNat)).size
                                                  (f (0 + i.toNat)).att).es.length
                                            (pkG
                                              (sendL
                                                  { room := L.room, first := L.first, next := L.next, last := L.last,
                                                    es := rowPk L.es.length (pkG L.es) : LSt }
                                                  (f (0 + i.toNat)).mi (f (0 + i.toNat)).size (f (0 + i.toNat)).att).es),
                                          AB.row 36 4
                                            (sendL L (f (0 + i.toNat)).mi (f (0 + i.toNat)).size
                                                  (f (0 + i.toNat)).att).es.length
                                            (pkG
                                              (sendL L (f (0 + i.toNat)).mi (f (0 + i.toNat)).size
                                                  (f (0 + i.toNat)).att).es)]))
                                    (T.ret
                                      (Exit.normal,
                                        [AV.e (EV.s (SV.d (Value.int IntKind.i64 room))), AV.e (EV.s (SV.sl 0 5 0 ns z)),
                                          AV.e (EV.s (SV.ptr 1 0)), AV.e (EV.s (SV.ptr 3 0)),
                                          AV.e (EV.s (SV.d (Value.int IntKind.i64 (IntKind.i64.wrap (i + 1)))))],
                                        [AB.ro 5 ns (stF f),
                                          AB.cells 86
                                            [SV.d
                                                (Value.int IntKind.i64
                                                  (sendL L (f (0 + i.toNat)).mi (f (0 + i.toNat)).size
                                                      (f (0 + i.toNat)).att).room),
                                              SV.d
                                                (Value.int IntKind.u64
                                                  (sendL L (f (0 + i.toNat)).mi (f (0 + i.toNat)).size
                                                      (f (0 + i.toNat)).att).first),
                                              SV.d
                                                (Value.int IntKind.u64
                                                  (sendL L (f (0 + i.toNat)).mi (f (0 + i.toNat)).size
                                                      (f (0 + i.toNat)).att).next),
                                              SV.d
                                                (Value.int IntKind.i64
                                                  (sendL L (f (0 + i.toNat)).mi (f (0 + i.toNat)).size
                                                      (f (0 + i.toNat)).att).last),
                                              SV.mp 2],
                                          AB.pm
                                            (sendL L (f (0 + i.toNat)).mi (f (0 + i.toNat)).size (f (0 + i.toNat)).att).es,
                                          AB.cells 44
                                            [SV.d
                                                (Value.int IntKind.i64
                                                  (sendL
                                                      { room := L.room, first := L.first, next := L.next, last := L.last,
                                                        es := rowPk L.es.length (pkG L.es) : LSt }
                                                      (f (0 + i.toNat)).mi (f (0 + i.toNat)).size
                                                      (f (0 + i.toNat)).att).room),
                                              SV.d
                                                (Value.int IntKind.u64
                                                  (sendL
                                                      { room := L.room, first := L.first, next := L.next, last := L.last,
                                                        es := rowPk L.es.length (pkG L.es) : LSt }
                                                      (f (0 + i.toNat)).mi (f (0 + i.toNat)).size
                                                      (f (0 + i.toNat)).att).first),
                                              SV.d
                                                (Value.int IntKind.u64
                                                  (sendL
                                                      { room := L.room, first := L.first, next := L.next, last := L.last,
                                                        es := rowPk L.es.length (pkG L.es) : LSt }
                                                      (f (0 + i.toNat)).mi (f (0 + i.toNat)).size
                                                      (f (0 + i.toNat)).att).next),
                                              SV.d
                                                (Value.int IntKind.i64
                                                  (sendL
                                                      { room := L.room, first := L.first, next := L.next, last := L.last,
                                                        es := rowPk L.es.length (pkG L.es) : LSt }
                                                      (f (0 + i.toNat)).mi (f (0 + i.toNat)).size
                                                      (f (0 + i.toNat)).att).last),
                                              SV.sl 6 4 0
                                                (sendL
                                                      { room := L.room, first := L.first, next := L.next, last := L.last,
                                                        es := rowPk L.es.length (pkG L.es) : LSt }
                                                      (f (0 + i.toNat)).mi (f (0 + i.toNat)).size
                                                      (f (0 + i.toNat)).att).es.length
                                                0],
                                          AB.dead,
                                          AB.cells 32
                                            [SV.d (Value.int IntKind.i64 (f (0 + i.toNat)).kind),
                                              SV.d (Value.int IntKind.i64 (f (0 + i.toNat)).mi),
                                              SV.d (Value.int IntKind.i64 (f (0 + i.toNat)).size),
                                              SV.d (Value.int IntKind.i64 (f (0 + i.toNat)).att),
                                              SV.d (Value.int IntKind.u64 (f (0 + i.toNat)).seq)],
                                          AB.row 36 4
                                            (sendL
                                                  { room := L.room, first := L.first, next := L.next, last := L.last,
                                                    es := rowPk L.es.length (pkG L.es) : LSt }
                                                  (f (0 + i.toNat)).mi (f (0 + i.toNat)).size
                                                  (f (0 + i.toNat)).att).es.length
                                            (pkG
                                              (sendL
                                                  { room := L.room, first := L.first, next := L.next, last := L.last,
                                                    es := rowPk L.es.length (pkG L.es) : LSt }
                                                  (f (0 + i.toNat)).mi (f (0 + i.toNat)).size (f (0 + i.toNat)).att).es),
                                          AB.row 36 4
                                            (sendL L (f (0 + i.toNat)).mi (f (0 + i.toNat)).size
                                                  (f (0 + i.toNat)).att).es.length
                                            (pkG
                                              (sendL L (f (0 + i.toNat)).mi (f (0 + i.toNat)).size
                                                  (f (0 + i.toNat)).att).es)]))))))
                            (T.ret
                              (Exit.ret,
                                [AV.e (EV.s (SV.d (Value.int IntKind.i64 room))), AV.e (EV.s (SV.sl 0 5 0 ns z)),
                                  AV.e (EV.s (SV.ptr 1 0)), AV.e (EV.s (SV.ptr 3 0)),
                                  AV.e (EV.s (SV.d (Value.int IntKind.i64 i)))],
                                [AB.ro 5 ns (stF f),
                                  AB.cells 86
                                    [SV.d
                                        (Value.int IntKind.i64
                                          (sendL L (f (0 + i.toNat)).mi (f (0 + i.toNat)).size (f (0 + i.toNat)).att).room),
                                      SV.d
                                        (Value.int IntKind.u64
                                          (sendL L (f (0 + i.toNat)).mi (f (0 + i.toNat)).size
                                              (f (0 + i.toNat)).att).first),
                                      SV.d
                                        (Value.int IntKind.u64
                                          (sendL L (f (0 + i.toNat)).mi (f (0 + i.toNat)).size (f (0 + i.toNat)).att).next),
                                      SV.d
                                        (Value.int IntKind.i64
                                          (sendL L (f (0 + i.toNat)).mi (f (0 + i.toNat)).size (f (0 + i.toNat)).att).last),
                                      SV.mp 2],
                                  AB.pm (sendL L (f (0 + i.toNat)).mi (f (0 + i.toNat)).size (f (0 + i.toNat)).att).es,
                                  AB.cells 44
                                    [SV.d
                                        (Value.int IntKind.i64
                                          (sendL
                                              { room := L.room, first := L.first, next := L.next, last := L.last,
                                                es := rowPk L.es.length (pkG L.es) : LSt }
                                              (f (0 + i.toNat)).mi (f (0 + i.toNat)).size (f (0 + i.toNat)).att).room),
                                      SV.d
                                        (Value.int IntKind.u64
                                          (sendL
                                              { room := L.room, first := L.first, next := L.next, last := L.last,
                                                es := rowPk L.es.length (pkG L.es) : LSt }
                                              (f (0 + i.toNat)).mi (f (0 + i.toNat)).size (f (0 + i.toNat)).att).first),
                                      SV.d
                                        (Value.int IntKind.u64
                                          (sendL
                                              { room := L.room, first := L.first, next := L.next, last := L.last,
                                                es := rowPk L.es.length (pkG L.es) : LSt }
                                              (f (0 + i.toNat)).mi (f (0 + i.toNat)).size (f (0 + i.toNat)).att).next),
                                      SV.d
                                        (Value.int IntKind.i64
                                          (sendL
                                              { room := L.room, first := L.first, next := L.next, last := L.last,
                                                es := rowPk L.es.length (pkG L.es) : LSt }
                                              (f (0 + i.toNat)).mi (f (0 + i.toNat)).size (f (0 + i.toNat)).att).last),
                                      SV.sl 6 4 0
                                        (sendL
                                              { room := L.room, first := L.first, next := L.next, last := L.last,
                                                es := rowPk L.es.length (pkG L.es) : LSt }
                                              (f (0 + i.toNat)).mi (f (0 + i.toNat)).size (f (0 + i.toNat)).att).es.length
                                        0],
                                  AB.dead,
                                  AB.cells 32
                                    [SV.d (Value.int IntKind.i64 (f (0 + i.toNat)).kind),
                                      SV.d (Value.int IntKind.i64 (f (0 + i.toNat)).mi),
                                      SV.d (Value.int IntKind.i64 (f (0 + i.toNat)).size),
                                      SV.d (Value.int IntKind.i64 (f (0 + i.toNat)).att),
                                      SV.d (Value.int IntKind.u64 (f (0 + i.toNat)).seq)],
                                  AB.row 36 4
                                    (sendL
                                          { room := L.room, first := L.first, next := L.next, last := L.last,
                                            es := rowPk L.es.length (pkG L.es) : LSt }
                                          (f (0 + i.toNat)).mi (f (0 + i.toNat)).size (f (0 + i.toNat)).att).es.length
                                    (pkG
                                      (sendL
                                          { room := L.room, first := L.first, next := L.next, last := L.last,
                                            es := rowPk L.es.length (pkG L.es) : LSt }
                                          (f (0 + i.toNat)).mi (f (0 + i.toNat)).size (f (0 + i.toNat)).att).es),
                                  AB.row 36 4
                                    (sendL L (f (0 + i.toNat)).mi (f (0 + i.toNat)).size (f (0 + i.toNat)).att).es.length
                                    (pkG
                                      (sendL L (f (0 + i.toNat)).mi (f (0 + i.toNat)).size
                                          (f (0 + i.toNat)).att).es)]))))))))))
            (T.ite ((f (0 + i.toNat)).kind == 1)
              (T.need
                ((L.es.length = L.es.length ∧ PkRow L.es.length (pkG L.es)) ∧
                  { room := L.room, first := L.first, next := L.next, last := L.last, es := rowPk L.es.length (pkG L.es) :
                      LSt }.Ok)
                (T.ite
                  (if true = true then
                    !((takeP L (f (0 + i.toNat)).seq).seq ==
                          (takeP
                              { room := L.room, first := L.first, next := L.next, last := L.last,
                                es := rowPk L.es.length (pkG L.es) : LSt }
                              (f (0 + i.toNat)).seq).seq &&
                        ((takeP L (f (0 + i.toNat)).seq).mi ==
                            (takeP
                                { room := L.room, first := L.first, next := L.next, last := L.last,
                                  es := rowPk L.es.length (pkG L.es) : LSt }
                                (f (0 + i.toNat)).seq).mi &&
                          ((takeP L (f (0 + i.toNat)).seq).size ==
                              (takeP
                                  { room := L.room, first := L.first, next := L.next, last := L.last,
                                    es := rowPk L.es.length (pkG L.es) : LSt }
                                  (f (0 + i.toNat)).seq).size &&
                            ((takeP L (f (0 + i.toNat)).seq).sent ==
                                (takeP
                                    { room := L.room, first := L.first, next := L.next, last := L.last,
                                      es := rowPk L.es.length (pkG L.es) : LSt }
                                    (f (0 + i.toNat)).seq).sent &&
                              true))))
                  else
                    (takeP L (f (0 + i.toNat)).seq).seq ==
                        (takeP
                            { room := L.room, first := L.first, next := L.next, last := L.last,
                              es := rowPk L.es.length (pkG L.es) : LSt }
                            (f (0 + i.toNat)).seq).seq &&
                      ((takeP L (f (0 + i.toNat)).seq).mi ==
                          (takeP
                              { room := L.room, first := L.first, next := L.next, last := L.last,
                                es := rowPk L.es.length (pkG L.es) : LSt }
                              (f (0 + i.toNat)).seq).mi &&
                        ((takeP L (f (0 + i.toNat)).seq).size ==
                            (takeP
                                { room := L.room, first := L.first, next := L.next, last := L.last,
                                  es := rowPk L.es.length (pkG L.es) : LSt }
                                (f (0 + i.toNat)).seq).size &&
                          ((takeP L (f (0 + i.toNat)).seq).sent ==
                              (takeP
                                  { room := L.room, first := L.first, next := L.next, last := L.last,
                                    es := rowPk L.es.length (pkG L.es) : LSt }
                                  (f (0 + i.toNat)).seq).sent &&
                            true))))
                  (T.ret
                    (Exit.ret,
                      [AV.e (EV.s (SV.d (Value.int IntKind.i64 room))), AV.e (EV.s (SV.sl 0 5 0 ns z)),
                        AV.e (EV.s (SV.ptr 1 0)), AV.e (EV.s (SV.ptr 3 0)), AV.e (EV.s (SV.d (Value.int IntKind.i64 i)))],
                      [AB.ro 5 ns (stF f),
                        AB.cells 86
                          [SV.d (Value.int IntKind.i64 (takeL L (f (0 + i.toNat)).seq).room),
                            SV.d (Value.int IntKind.u64 (takeL L (f (0 + i.toNat)).seq).first),
                            SV.d (Value.int IntKind.u64 (takeL L (f (0 + i.toNat)).seq).next),
                            SV.d (Value.int IntKind.i64 (takeL L (f (0 + i.toNat)).seq).last), SV.mp 2],
                        AB.pm (takeL L (f (0 + i.toNat)).seq).es,
                        AB.cells 44
                          [SV.d
                              (Value.int IntKind.i64
                                (takeL
                                    { room := L.room, first := L.first, next := L.next, last := L.last,
                                      es := rowPk L.es.length (pkG L.es) : LSt }
                                    (f (0 + i.toNat)).seq).room),
                            SV.d
                              (Value.int IntKind.u64
                                (takeL
                                    { room := L.room, first := L.first, next := L.next, last := L.last,
                                      es := rowPk L.es.length (pkG L.es) : LSt }
                                    (f (0 + i.toNat)).seq).first),
                            SV.d
                              (Value.int IntKind.u64
                                (takeL
                                    { room := L.room, first := L.first, next := L.next, last := L.last,
                                      es := rowPk L.es.length (pkG L.es) : LSt }
                                    (f (0 + i.toNat)).seq).next),
                            SV.d
                              (Value.int IntKind.i64
                                (takeL
                                    { room := L.room, first := L.first, next := L.next, last := L.last,
                                      es := rowPk L.es.length (pkG L.es) : LSt }
                                    (f (0 + i.toNat)).seq).last),
                            SV.sl 7 4 0
                              (takeL
                                    { room := L.room, first := L.first, next := L.next, last := L.last,
                                      es := rowPk L.es.length (pkG L.es) : LSt }
                                    (f (0 + i.toNat)).seq).es.length
                              0],
                        AB.dead,
                        AB.cells 32
                          [SV.d (Value.int IntKind.i64 (f (0 + i.toNat)).kind),
                            SV.d (Value.int IntKind.i64 (f (0 + i.toNat)).mi),
                            SV.d (Value.int IntKind.i64 (f (0 + i.toNat)).size),
                            SV.d (Value.int IntKind.i64 (f (0 + i.toNat)).att),
                            SV.d (Value.int IntKind.u64 (f (0 + i.toNat)).seq)],
                        AB.cells 36
                          [SV.d (Value.int IntKind.u64 (takeP L (f (0 + i.toNat)).seq).seq),
                            SV.d (Value.int IntKind.i64 (takeP L (f (0 + i.toNat)).seq).mi),
                            SV.d (Value.int IntKind.i64 (takeP L (f (0 + i.toNat)).seq).size),
                            SV.d (Value.int IntKind.i64 (takeP L (f (0 + i.toNat)).seq).sent)],
                        AB.row 36 4
                          (takeL
                                { room := L.room, first := L.first, next := L.next, last := L.last,
                                  es := rowPk L.es.length (pkG L.es) : LSt }
                                (f (0 + i.toNat)).seq).es.length
                          (pkG
                            (takeL
                                { room := L.room, first := L.first, next := L.next, last := L.last,
                                  es := rowPk L.es.length (pkG L.es) : LSt }
                                (f (0 + i.toNat)).seq).es),
                        AB.cells 36
                          [SV.d
                              (Value.int IntKind.u64
                                (takeP
                                    { room := L.room, first := L.first, next := L.next, last := L.last,
                                      es := rowPk L.es.length (pkG L.es) : LSt }
                                    (f (0 + i.toNat)).seq).seq),
                            SV.d
                              (Value.int IntKind.i64
                                (takeP
                                    { room := L.room, first := L.first, next := L.next, last := L.last,
                                      es := rowPk L.es.length (pkG L.es) : LSt }
                                    (f (0 + i.toNat)).seq).mi),
                            SV.d
                              (Value.int IntKind.i64
                                (takeP
                                    { room := L.room, first := L.first, next := L.next, last := L.last,
                                      es := rowPk L.es.length (pkG L.es) : LSt }
                                    (f (0 + i.toNat)).seq).size),
                            SV.d
                              (Value.int IntKind.i64
                                (takeP
                                    { room := L.room, first := L.first, next := L.next, last := L.last,
                                      es := rowPk L.es.length (pkG L.es) : LSt }
                                    (f (0 + i.toNat)).seq).sent)]]))
                  (T.ite
                    (takeE L (f (0 + i.toNat)).seq !=
                      takeE
                        { room := L.room, first := L.first, next := L.next, last := L.last,
                          es := rowPk L.es.length (pkG L.es) : LSt }
                        (f (0 + i.toNat)).seq)
                    (T.ret
                      (Exit.ret,
                        [AV.e (EV.s (SV.d (Value.int IntKind.i64 room))), AV.e (EV.s (SV.sl 0 5 0 ns z)),
                          AV.e (EV.s (SV.ptr 1 0)), AV.e (EV.s (SV.ptr 3 0)), AV.e (EV.s (SV.d (Value.int IntKind.i64 i)))],
                        [AB.ro 5 ns (stF f),
                          AB.cells 86
                            [SV.d (Value.int IntKind.i64 (takeL L (f (0 + i.toNat)).seq).room),
                              SV.d (Value.int IntKind.u64 (takeL L (f (0 + i.toNat)).seq).first),
                              SV.d (Value.int IntKind.u64 (takeL L (f (0 + i.toNat)).seq).next),
                              SV.d (Value.int IntKind.i64 (takeL L (f (0 + i.toNat)).seq).last), SV.mp 2],
                          AB.pm (takeL L (f (0 + i.toNat)).seq).es,
                          AB.cells 44
                            [SV.d
                                (Value.int IntKind.i64
                                  (takeL
                                      { room := L.room, first := L.first, next := L.next, last := L.last,
                                        es := rowPk L.es.length (pkG L.es) : LSt }
                                      (f (0 + i.toNat)).seq).room),
                              SV.d
                                (Value.int IntKind.u64
                                  (takeL
                                      { room := L.room, first := L.first, next := L.next, last := L.last,
                                        es := rowPk L.es.length (pkG L.es) : LSt }
                                      (f (0 + i.toNat)).seq).first),
                              SV.d
                                (Value.int IntKind.u64
                                  (takeL
                                      { room := L.room, first := L.first, next := L.next, last := L.last,
                                        es := rowPk L.es.length (pkG L.es) : LSt }
                                      (f (0 + i.toNat)).seq).next),
                              SV.d
                                (Value.int IntKind.i64
                                  (takeL
                                      { room := L.room, first := L.first, next := L.next, last := L.last,
                                        es := rowPk L.es.length (pkG L.es) : LSt }
                                      (f (0 + i.toNat)).seq).last),
                              SV.sl 7 4 0
                                (takeL
                                      { room := L.room, first := L.first, next := L.next, last := L.last,
                                        es := rowPk L.es.length (pkG L.es) : LSt }
                                      (f (0 + i.toNat)).seq).es.length
                                0],
                          AB.dead,
                          AB.cells 32
                            [SV.d (Value.int IntKind.i64 (f (0 + i.toNat)).kind),
                              SV.d (Value.int IntKind.i64 (f (0 + i.toNat)).mi),
                              SV.d (Value.int IntKind.i64 (f (0 + i.toNat)).size),
                              SV.d (Value.int IntKind.i64 (f (0 + i.toNat)).att),
                              SV.d (Value.int IntKind.u64 (f (0 + i.toNat)).seq)],
                          AB.cells 36
                            [SV.d (Value.int IntKind.u64 (takeP L (f (0 + i.toNat)).seq).seq),
                              SV.d (Value.int IntKind.i64 (takeP L (f (0 + i.toNat)).seq).mi),
                              SV.d (Value.int IntKind.i64 (takeP L (f (0 + i.toNat)).seq).size),
                              SV.d (Value.int IntKind.i64 (takeP L (f (0 + i.toNat)).seq).sent)],
                          AB.row 36 4
                            (takeL
                                  { room := L.room, first := L.first, next := L.next, last := L.last,
                                    es := rowPk L.es.length (pkG L.es) : LSt }
                                  (f (0 + i.toNat)).seq).es.length
                            (pkG
                              (takeL
                                  { room := L.room, first := L.first, next := L.next, last := L.last,
                                    es := rowPk L.es.length (pkG L.es) : LSt }
                                  (f (0 + i.toNat)).seq).es),
                          AB.cells 36
                            [SV.d
                                (Value.int IntKind.u64
                                  (takeP
                                      { room := L.room, first := L.first, next := L.next, last := L.last,
                                        es := rowPk L.es.length (pkG L.es) : LSt }
                                      (f (0 + i.toNat)).seq).seq),
                              SV.d
                                (Value.int IntKind.i64
                                  (takeP
                                      { room := L.room, first := L.first, next := L.next, last := L.last,
                                        es := rowPk L.es.length (pkG L.es) : LSt }
                                      (f (0 + i.toNat)).seq).mi),
                              SV.d
                                (Value.int IntKind.i64
                                  (takeP
                                      { room := L.room, first := L.first, next := L.next, last := L.last,
                                        es := rowPk L.es.length (pkG L.es) : LSt }
                                      (f (0 + i.toNat)).seq).size),
                              SV.d
                                (Value.int IntKind.i64
                                  (takeP
                                      { room := L.room, first := L.first, next := L.next, last := L.last,
                                        es := rowPk L.es.length (pkG L.es) : LSt }
                                      (f (0 + i.toNat)).seq).sent)]]))
                    (T.need (takeL L (f (0 + i.toNat)).seq).Ok
                      (T.need
                        (some
                            (AB.cells 44
                              [SV.d
                                  (Value.int IntKind.i64
                                    (takeL
                                        { room := L.room, first := L.first, next := L.next, last := L.last,
                                          es := rowPk L.es.length (pkG L.es) : LSt }
                                        (f (0 + i.toNat)).seq).room),
                                SV.d
                                  (Value.int IntKind.u64
                                    (takeL
                                        { room := L.room, first := L.first, next := L.next, last := L.last,
                                          es := rowPk L.es.length (pkG L.es) : LSt }
                                        (f (0 + i.toNat)).seq).first),
                                SV.d
                                  (Value.int IntKind.u64
                                    (takeL
                                        { room := L.room, first := L.first, next := L.next, last := L.last,
                                          es := rowPk L.es.length (pkG L.es) : LSt }
                                        (f (0 + i.toNat)).seq).next),
                                SV.d
                                  (Value.int IntKind.i64
                                    (takeL
                                        { room := L.room, first := L.first, next := L.next, last := L.last,
                                          es := rowPk L.es.length (pkG L.es) : LSt }
                                        (f (0 + i.toNat)).seq).last),
                                SV.sl 7 4 0
                                  (takeL
                                        { room := L.room, first := L.first, next := L.next, last := L.last,
                                          es := rowPk L.es.length (pkG L.es) : LSt }
                                        (f (0 + i.toNat)).seq).es.length
                                  0]) =
                          some
                            (AB.cells 44
                              [SV.d
                                  (Value.int IntKind.i64
                                    (takeL
                                        { room := L.room, first := L.first, next := L.next, last := L.last,
                                          es := rowPk L.es.length (pkG L.es) : LSt }
                                        (f (0 + i.toNat)).seq).room),
                                SV.d
                                  (Value.int IntKind.u64
                                    (takeL
                                        { room := L.room, first := L.first, next := L.next, last := L.last,
                                          es := rowPk L.es.length (pkG L.es) : LSt }
                                        (f (0 + i.toNat)).seq).first),
                                SV.d
                                  (Value.int IntKind.u64
                                    (takeL
                                        { room := L.room, first := L.first, next := L.next, last := L.last,
                                          es := rowPk L.es.length (pkG L.es) : LSt }
                                        (f (0 + i.toNat)).seq).next),
                                SV.d
                                  (Value.int IntKind.i64
                                    (takeL
                                        { room := L.room, first := L.first, next := L.next, last := L.last,
                                          es := rowPk L.es.length (pkG L.es) : LSt }
                                        (f (0 + i.toNat)).seq).last),
                                SV.sl 7 4 0
                                  (takeL
                                        { room := L.room, first := L.first, next := L.next, last := L.last,
                                          es := rowPk L.es.length (pkG L.es) : LSt }
                                        (f (0 + i.toNat)).seq).es.length
                                  0]))
                        (T.need
                          ((0 + (takeL L (f (0 + i.toNat)).seq).es.length ≤ (takeL L (f (0 + i.toNat)).seq).es.length ∧
                              0 +
                                    (takeL
                                          { room := L.room, first := L.first, next := L.next, last := L.last,
                                            es := rowPk L.es.length (pkG L.es) : LSt }
                                          (f (0 + i.toNat)).seq).es.length ≤
                                  (takeL
                                        { room := L.room, first := L.first, next := L.next, last := L.last,
                                          es := rowPk L.es.length (pkG L.es) : LSt }
                                        (f (0 + i.toNat)).seq).es.length ∧
                                (takeL L (f (0 + i.toNat)).seq).es.length ≤ most) ∧
                            PkRow (takeL L (f (0 + i.toNat)).seq).es.length (pkG (takeL L (f (0 + i.toNat)).seq).es) ∧
                              PkRow
                                (takeL
                                      { room := L.room, first := L.first, next := L.next, last := L.last,
                                        es := rowPk L.es.length (pkG L.es) : LSt }
                                      (f (0 + i.toNat)).seq).es.length
                                (pkG
                                  (takeL
                                      { room := L.room, first := L.first, next := L.next, last := L.last,
                                        es := rowPk L.es.length (pkG L.es) : LSt }
                                      (f (0 + i.toNat)).seq).es))
                          (T.ite
                            (samePk (takeL L (f (0 + i.toNat)).seq).es.length
                              (fun x => decPkt (pkG (takeL L (f (0 + i.toNat)).seq).es (0 + x)))
                              (takeL
                                    { room := L.room, first := L.first, next := L.next, last := L.last,
                                      es := rowPk L.es.length (pkG L.es) : LSt }
                                    (f (0 + i.toNat)).seq).es.length
                              fun x =>
                              decPkt
                                (pkG
                                  (takeL
                                      { room := L.room, first := L.first, next := L.next, last := L.last,
                                        es := rowPk L.es.length (pkG L.es) : LSt }
                                      (f (0 + i.toNat)).seq).es
                                  (0 + x)))
                            (T.need
                              (some
                                  (AB.cells 44
                                    [SV.d
                                        (Value.int IntKind.i64
                                          (takeL
                                              { room := L.room, first := L.first, next := L.next, last := L.last,
                                                es := rowPk L.es.length (pkG L.es) : LSt }
                                              (f (0 + i.toNat)).seq).room),
                                      SV.d
                                        (Value.int IntKind.u64
                                          (takeL
                                              { room := L.room, first := L.first, next := L.next, last := L.last,
                                                es := rowPk L.es.length (pkG L.es) : LSt }
                                              (f (0 + i.toNat)).seq).first),
                                      SV.d
                                        (Value.int IntKind.u64
                                          (takeL
                                              { room := L.room, first := L.first, next := L.next, last := L.last,
                                                es := rowPk L.es.length (pkG L.es) : LSt }
                                              (f (0 + i.toNat)).seq).next),
                                      SV.d
                                        (Value.int IntKind.i64
                                          (takeL
                                              { room := L.room, first := L.first, next := L.next, last := L.last,
                                                es := rowPk L.es.length (pkG L.es) : LSt }
                                              (f (0 + i.toNat)).seq).last),
                                      SV.sl 7 4 0
                                        (takeL
                                              { room := L.room, first := L.first, next := L.next, last := L.last,
                                                es := rowPk L.es.length (pkG L.es) : LSt }
                                              (f (0 + i.toNat)).seq).es.length
                                        0]) =
                                some
                                  (AB.cells 44
                                    [SV.d
                                        (Value.int IntKind.i64
                                          (takeL
                                              { room := L.room, first := L.first, next := L.next, last := L.last,
                                                es := rowPk L.es.length (pkG L.es) : LSt }
                                              (f (0 + i.toNat)).seq).room),
                                      SV.d
                                        (Value.int IntKind.u64
                                          (takeL
                                              { room := L.room, first := L.first, next := L.next, last := L.last,
                                                es := rowPk L.es.length (pkG L.es) : LSt }
                                              (f (0 + i.toNat)).seq).first),
                                      SV.d
                                        (Value.int IntKind.u64
                                          (takeL
                                              { room := L.room, first := L.first, next := L.next, last := L.last,
                                                es := rowPk L.es.length (pkG L.es) : LSt }
                                              (f (0 + i.toNat)).seq).next),
                                      SV.d
                                        (Value.int IntKind.i64
                                          (takeL
                                              { room := L.room, first := L.first, next := L.next, last := L.last,
                                                es := rowPk L.es.length (pkG L.es) : LSt }
                                              (f (0 + i.toNat)).seq).last),
                                      SV.sl 7 4 0
                                        (takeL
                                              { room := L.room, first := L.first, next := L.next, last := L.last,
                                                es := rowPk L.es.length (pkG L.es) : LSt }
                                              (f (0 + i.toNat)).seq).es.length
                                        0]))
                              (T.ite
                                ((takeL L (f (0 + i.toNat)).seq).next !=
                                  (takeL
                                      { room := L.room, first := L.first, next := L.next, last := L.last,
                                        es := rowPk L.es.length (pkG L.es) : LSt }
                                      (f (0 + i.toNat)).seq).next)
                                (T.ret
                                  (Exit.ret,
                                    [AV.e (EV.s (SV.d (Value.int IntKind.i64 room))), AV.e (EV.s (SV.sl 0 5 0 ns z)),
                                      AV.e (EV.s (SV.ptr 1 0)), AV.e (EV.s (SV.ptr 3 0)),
                                      AV.e (EV.s (SV.d (Value.int IntKind.i64 i)))],
                                    [AB.ro 5 ns (stF f),
                                      AB.cells 86
                                        [SV.d (Value.int IntKind.i64 (takeL L (f (0 + i.toNat)).seq).room),
                                          SV.d (Value.int IntKind.u64 (takeL L (f (0 + i.toNat)).seq).first),
                                          SV.d (Value.int IntKind.u64 (takeL L (f (0 + i.toNat)).seq).next),
                                          SV.d (Value.int IntKind.i64 (takeL L (f (0 + i.toNat)).seq).last), SV.mp 2],
                                      AB.pm (takeL L (f (0 + i.toNat)).seq).es,
                                      AB.cells 44
                                        [SV.d
                                            (Value.int IntKind.i64
                                              (takeL
                                                  { room := L.room, first := L.first, next := L.next, last := L.last,
                                                    es := rowPk L.es.length (pkG L.es) : LSt }
                                                  (f (0 + i.toNat)).seq).room),
                                          SV.d
                                            (Value.int IntKind.u64
                                              (takeL
                                                  { room := L.room, first := L.first, next := L.next, last := L.last,
                                                    es := rowPk L.es.length (pkG L.es) : LSt }
                                                  (f (0 + i.toNat)).seq).first),
                                          SV.d
                                            (Value.int IntKind.u64
                                              (takeL
                                                  { room := L.room, first := L.first, next := L.next, last := L.last,
                                                    es := rowPk L.es.length (pkG L.es) : LSt }
                                                  (f (0 + i.toNat)).seq).next),
                                          SV.d
                                            (Value.int IntKind.i64
                                              (takeL
                                                  { room := L.room, first := L.first, next := L.next, last := L.last,
                                                    es := rowPk L.es.length (pkG L.es) : LSt }
                                                  (f (0 + i.toNat)).seq).last),
                                          SV.sl 7 4 0
                                            (takeL
                                                  { room := L.room, first := L.first, next := L.next, last := L.last,
                                                    es := rowPk L.es.length (pkG L.es) : LSt }
                                                  (f (0 + i.toNat)).seq).es.length
                                            0],
                                      AB.dead,
                                      AB.cells 32
                                        [SV.d (Value.int IntKind.i64 (f (0 + i.toNat)).kind),
                                          SV.d (Value.int IntKind.i64 (f (0 + i.toNat)).mi),
                                          SV.d (Value.int IntKind.i64 (f (0 + i.toNat)).size),
                                          SV.d (Value.int IntKind.i64 (f (0 + i.toNat)).att),
                                          SV.d (Value.int IntKind.u64 (f (0 + i.toNat)).seq)],
                                      AB.cells 36
                                        [SV.d (Value.int IntKind.u64 (takeP L (f (0 + i.toNat)).seq).seq),
                                          SV.d (Value.int IntKind.i64 (takeP L (f (0 + i.toNat)).seq).mi),
                                          SV.d (Value.int IntKind.i64 (takeP L (f (0 + i.toNat)).seq).size),
                                          SV.d (Value.int IntKind.i64 (takeP L (f (0 + i.toNat)).seq).sent)],
                                      AB.row 36 4
                                        (takeL
                                              { room := L.room, first := L.first, next := L.next, last := L.last,
                                                es := rowPk L.es.length (pkG L.es) : LSt }
                                              (f (0 + i.toNat)).seq).es.length
                                        (pkG
                                          (takeL
                                              { room := L.room, first := L.first, next := L.next, last := L.last,
                                                es := rowPk L.es.length (pkG L.es) : LSt }
                                              (f (0 + i.toNat)).seq).es),
                                      AB.cells 36
                                        [SV.d
                                            (Value.int IntKind.u64
                                              (takeP
                                                  { room := L.room, first := L.first, next := L.next, last := L.last,
                                                    es := rowPk L.es.length (pkG L.es) : LSt }
                                                  (f (0 + i.toNat)).seq).seq),
                                          SV.d
                                            (Value.int IntKind.i64
                                              (takeP
                                                  { room := L.room, first := L.first, next := L.next, last := L.last,
                                                    es := rowPk L.es.length (pkG L.es) : LSt }
                                                  (f (0 + i.toNat)).seq).mi),
                                          SV.d
                                            (Value.int IntKind.i64
                                              (takeP
                                                  { room := L.room, first := L.first, next := L.next, last := L.last,
                                                    es := rowPk L.es.length (pkG L.es) : LSt }
                                                  (f (0 + i.toNat)).seq).size),
                                          SV.d
                                            (Value.int IntKind.i64
                                              (takeP
                                                  { room := L.room, first := L.first, next := L.next, last := L.last,
                                                    es := rowPk L.es.length (pkG L.es) : LSt }
                                                  (f (0 + i.toNat)).seq).sent)],
                                      AB.row 36 4 (takeL L (f (0 + i.toNat)).seq).es.length
                                        (pkG (takeL L (f (0 + i.toNat)).seq).es)]))
                                (T.need
                                  (some
                                      (AB.cells 44
                                        [SV.d
                                            (Value.int IntKind.i64
                                              (takeL
                                                  { room := L.room, first := L.first, next := L.next, last := L.last,
                                                    es := rowPk L.es.length (pkG L.es) : LSt }
                                                  (f (0 + i.toNat)).seq).room),
                                          SV.d
                                            (Value.int IntKind.u64
                                              (takeL
                                                  { room := L.room, first := L.first, next := L.next, last := L.last,
                                                    es := rowPk L.es.length (pkG L.es) : LSt }
                                                  (f (0 + i.toNat)).seq).first),
                                          SV.d
                                            (Value.int IntKind.u64
                                              (takeL
                                                  { room := L.room, first := L.first, next := L.next, last := L.last,
                                                    es := rowPk L.es.length (pkG L.es) : LSt }
                                                  (f (0 + i.toNat)).seq).next),
                                          SV.d
                                            (Value.int IntKind.i64
                                              (takeL
                                                  { room := L.room, first := L.first, next := L.next, last := L.last,
                                                    es := rowPk L.es.length (pkG L.es) : LSt }
                                                  (f (0 + i.toNat)).seq).last),
                                          SV.sl 7 4 0
                                            (takeL
                                                  { room := L.room, first := L.first, next := L.next, last := L.last,
                                                    es := rowPk L.es.length (pkG L.es) : LSt }
                                                  (f (0 + i.toNat)).seq).es.length
                                            0]) =
                                    some
                                      (AB.cells 44
                                        [SV.d
                                            (Value.int IntKind.i64
                                              (takeL
                                                  { room := L.room, first := L.first, next := L.next, last := L.last,
                                                    es := rowPk L.es.length (pkG L.es) : LSt }
                                                  (f (0 + i.toNat)).seq).room),
                                          SV.d
                                            (Value.int IntKind.u64
                                              (takeL
                                                  { room := L.room, first := L.first, next := L.next, last := L.last,
                                                    es := rowPk L.es.length (pkG L.es) : LSt }
                                                  (f (0 + i.toNat)).seq).first),
                                          SV.d
                                            (Value.int IntKind.u64
                                              (takeL
                                                  { room := L.room, first := L.first, next := L.next, last := L.last,
                                                    es := rowPk L.es.length (pkG L.es) : LSt }
                                                  (f (0 + i.toNat)).seq).next),
                                          SV.d
                                            (Value.int IntKind.i64
                                              (takeL
                                                  { room := L.room, first := L.first, next := L.next, last := L.last,
                                                    es := rowPk L.es.length (pkG L.es) : LSt }
                                                  (f (0 + i.toNat)).seq).last),
                                          SV.sl 7 4 0
                                            (takeL
                                                  { room := L.room, first := L.first, next := L.next, last := L.last,
                                                    es := rowPk L.es.length (pkG L.es) : LSt }
                                                  (f (0 + i.toNat)).seq).es.length
                                            0]))
                                  (T.ite
                                    (IntKind.i64.wrap
                                        ((takeL L (f (0 + i.toNat)).seq).room -
                                          (↑(takeL L (f (0 + i.toNat)).seq).es.length : Int)) !=
                                      IntKind.i64.wrap
                                        (room -
                                          (↑(takeL
                                                    { room := L.room, first := L.first, next := L.next, last := L.last,
                                                      es := rowPk L.es.length (pkG L.es) : LSt }
                                                    (f (0 + i.toNat)).seq).es.length :
                                            Int)))
                                    (T.ret
                                      (Exit.ret,
                                        [AV.e (EV.s (SV.d (Value.int IntKind.i64 room))), AV.e (EV.s (SV.sl 0 5 0 ns z)),
                                          AV.e (EV.s (SV.ptr 1 0)), AV.e (EV.s (SV.ptr 3 0)),
                                          AV.e (EV.s (SV.d (Value.int IntKind.i64 i)))],
                                        [AB.ro 5 ns (stF f),
                                          AB.cells 86
                                            [SV.d (Value.int IntKind.i64 (takeL L (f (0 + i.toNat)).seq).room),
                                              SV.d (Value.int IntKind.u64 (takeL L (f (0 + i.toNat)).seq).first),
                                              SV.d (Value.int IntKind.u64 (takeL L (f (0 + i.toNat)).seq).next),
                                              SV.d (Value.int IntKind.i64 (takeL L (f (0 + i.toNat)).seq).last), SV.mp 2],
                                          AB.pm (takeL L (f (0 + i.toNat)).seq).es,
                                          AB.cells 44
                                            [SV.d
                                                (Value.int IntKind.i64
                                                  (takeL
                                                      { room := L.room, first := L.first, next := L.next, last := L.last,
                                                        es := rowPk L.es.length (pkG L.es) : LSt }
                                                      (f (0 + i.toNat)).seq).room),
                                              SV.d
                                                (Value.int IntKind.u64
                                                  (takeL
                                                      { room := L.room, first := L.first, next := L.next, last := L.last,
                                                        es := rowPk L.es.length (pkG L.es) : LSt }
                                                      (f (0 + i.toNat)).seq).first),
                                              SV.d
                                                (Value.int IntKind.u64
                                                  (takeL
                                                      { room := L.room, first := L.first, next := L.next, last := L.last,
                                                        es := rowPk L.es.length (pkG L.es) : LSt }
                                                      (f (0 + i.toNat)).seq).next),
                                              SV.d
                                                (Value.int IntKind.i64
                                                  (takeL
                                                      { room := L.room, first := L.first, next := L.next, last := L.last,
                                                        es := rowPk L.es.length (pkG L.es) : LSt }
                                                      (f (0 + i.toNat)).seq).last),
                                              SV.sl 7 4 0
                                                (takeL
                                                      { room := L.room, first := L.first, next := L.next, last := L.last,
                                                        es := rowPk L.es.length (pkG L.es) : LSt }
                                                      (f (0 + i.toNat)).seq).es.length
                                                0],
                                          AB.dead,
                                          AB.cells 32
                                            [SV.d (Value.int IntKind.i64 (f (0 + i.toNat)).kind),
                                              SV.d (Value.int IntKind.i64 (f (0 + i.toNat)).mi),
                                              SV.d (Value.int IntKind.i64 (f (0 + i.toNat)).size),
                                              SV.d (Value.int IntKind.i64 (f (0 + i.toNat)).att),
                                              SV.d (Value.int IntKind.u64 (f (0 + i.toNat)).seq)],
                                          AB.cells 36
                                            [SV.d (Value.int IntKind.u64 (takeP L (f (0 + i.toNat)).seq).seq),
                                              SV.d (Value.int IntKind.i64 (takeP L (f (0 + i.toNat)).seq).mi),
                                              SV.d (Value.int IntKind.i64 (takeP L (f (0 + i.toNat)).seq).size),
                                              SV.d (Value.int IntKind.i64 (takeP L (f (0 + i.toNat)).seq).sent)],
                                          AB.row 36 4
                                            (takeL
                                                  { room := L.room, first := L.first, next := L.next, last := L.last,
                                                    es := rowPk L.es.length (pkG L.es) : LSt }
                                                  (f (0 + i.toNat)).seq).es.length
                                            (pkG
                                              (takeL
                                                  { room := L.room, first := L.first, next := L.next, last := L.last,
                                                    es := rowPk L.es.length (pkG L.es) : LSt }
                                                  (f (0 + i.toNat)).seq).es),
                                          AB.cells 36
                                            [SV.d
                                                (Value.int IntKind.u64
                                                  (takeP
                                                      { room := L.room, first := L.first, next := L.next, last := L.last,
                                                        es := rowPk L.es.length (pkG L.es) : LSt }
                                                      (f (0 + i.toNat)).seq).seq),
                                              SV.d
                                                (Value.int IntKind.i64
                                                  (takeP
                                                      { room := L.room, first := L.first, next := L.next, last := L.last,
                                                        es := rowPk L.es.length (pkG L.es) : LSt }
                                                      (f (0 + i.toNat)).seq).mi),
                                              SV.d
                                                (Value.int IntKind.i64
                                                  (takeP
                                                      { room := L.room, first := L.first, next := L.next, last := L.last,
                                                        es := rowPk L.es.length (pkG L.es) : LSt }
                                                      (f (0 + i.toNat)).seq).size),
                                              SV.d
                                                (Value.int IntKind.i64
                                                  (takeP
                                                      { room := L.room, first := L.first, next := L.next, last := L.last,
                                                        es := rowPk L.es.length (pkG L.es) : LSt }
                                                      (f (0 + i.toNat)).seq).sent)],
                                          AB.row 36 4 (takeL L (f (0 + i.toNat)).seq).es.length
                                            (pkG (takeL L (f (0 + i.toNat)).seq).es)]))
                                    (T.ret
                                      (Exit.normal,
                                        [AV.e (EV.s (SV.d (Value.int IntKind.i64 room))), AV.e (EV.s (SV.sl 0 5 0 ns z)),
                                          AV.e (EV.s (SV.ptr 1 0)), AV.e (EV.s (SV.ptr 3 0)),
                                          AV.e (EV.s (SV.d (Value.int IntKind.i64 (IntKind.i64.wrap (i + 1)))))],
                                        [AB.ro 5 ns (stF f),
                                          AB.cells 86
                                            [SV.d (Value.int IntKind.i64 (takeL L (f (0 + i.toNat)).seq).room),
                                              SV.d (Value.int IntKind.u64 (takeL L (f (0 + i.toNat)).seq).first),
                                              SV.d (Value.int IntKind.u64 (takeL L (f (0 + i.toNat)).seq).next),
                                              SV.d (Value.int IntKind.i64 (takeL L (f (0 + i.toNat)).seq).last), SV.mp 2],
                                          AB.pm (takeL L (f (0 + i.toNat)).seq).es,
                                          AB.cells 44
                                            [SV.d
                                                (Value.int IntKind.i64
                                                  (takeL
                                                      { room := L.room, first := L.first, next := L.next, last := L.last,
                                                        es := rowPk L.es.length (pkG L.es) : LSt }
                                                      (f (0 + i.toNat)).seq).room),
                                              SV.d
                                                (Value.int IntKind.u64
                                                  (takeL
                                                      { room := L.room, first := L.first, next := L.next, last := L.last,
                                                        es := rowPk L.es.length (pkG L.es) : LSt }
                                                      (f (0 + i.toNat)).seq).first),
                                              SV.d
                                                (Value.int IntKind.u64
                                                  (takeL
                                                      { room := L.room, first := L.first, next := L.next, last := L.last,
                                                        es := rowPk L.es.length (pkG L.es) : LSt }
                                                      (f (0 + i.toNat)).seq).next),
                                              SV.d
                                                (Value.int IntKind.i64
                                                  (takeL
                                                      { room := L.room, first := L.first, next := L.next, last := L.last,
                                                        es := rowPk L.es.length (pkG L.es) : LSt }
                                                      (f (0 + i.toNat)).seq).last),
                                              SV.sl 7 4 0
                                                (takeL
                                                      { room := L.room, first := L.first, next := L.next, last := L.last,
                                                        es := rowPk L.es.length (pkG L.es) : LSt }
                                                      (f (0 + i.toNat)).seq).es.length
                                                0],
                                          AB.dead,
                                          AB.cells 32
                                            [SV.d (Value.int IntKind.i64 (f (0 + i.toNat)).kind),
                                              SV.d (Value.int IntKind.i64 (f (0 + i.toNat)).mi),
                                              SV.d (Value.int IntKind.i64 (f (0 + i.toNat)).size),
                                              SV.d (Value.int IntKind.i64 (f (0 + i.toNat)).att),
                                              SV.d (Value.int IntKind.u64 (f (0 + i.toNat)).seq)],
                                          AB.cells 36
                                            [SV.d (Value.int IntKind.u64 (takeP L (f (0 + i.toNat)).seq).seq),
                                              SV.d (Value.int IntKind.i64 (takeP L (f (0 + i.toNat)).seq).mi),
                                              SV.d (Value.int IntKind.i64 (takeP L (f (0 + i.toNat)).seq).size),
                                              SV.d (Value.int IntKind.i64 (takeP L (f (0 + i.toNat)).seq).sent)],
                                          AB.row 36 4
                                            (takeL
                                                  { room := L.room, first := L.first, next := L.next, last := L.last,
                                                    es := rowPk L.es.length (pkG L.es) : LSt }
                                                  (f (0 + i.toNat)).seq).es.length
                                            (pkG
                                              (takeL
                                                  { room := L.room, first := L.first, next := L.next, last := L.last,
                                                    es := rowPk L.es.length (pkG L.es) : LSt }
                                                  (f (0 + i.toNat)).seq).es),
                                          AB.cells 36
                                            [SV.d
                                                (Value.int IntKind.u64
                                                  (takeP
                                                      { room := L.room, first := L.first, next := L.next, last := L.last,
                                                        es := rowPk L.es.length (pkG L.es) : LSt }
                                                      (f (0 + i.toNat)).seq).seq),
                                              SV.d
                                                (Value.int IntKind.i64
                                                  (takeP
                                                      { room := L.room, first := L.first, next := L.next, last := L.last,
                                                        es := rowPk L.es.length (pkG L.es) : LSt }
                                                      (f (0 + i.toNat)).seq).mi),
                                              SV.d
                                                (Value.int IntKind.i64
                                                  (takeP
                                                      { room := L.room, first := L.first, next := L.next, last := L.last,
                                                        es := rowPk L.es.length (pkG L.es) : LSt }
                                                      (f (0 + i.toNat)).seq).size),
                                              SV.d
                                                (Value.int IntKind.i64
                                                  (takeP
                                                      { room := L.room, first := L.first, next := L.next, last := L.last,
                                                        es := rowPk L.es.length (pkG L.es) : LSt }
                                                      (f (0 + i.toNat)).seq).sent)],
                                          AB.row 36 4 (takeL L (f (0 + i.toNat)).seq).es.length
                                            (pkG (takeL L (f (0 + i.toNat)).seq).es)]))))))
                            (T.ret
                              (Exit.ret,
                                [AV.e (EV.s (SV.d (Value.int IntKind.i64 room))), AV.e (EV.s (SV.sl 0 5 0 ns z)),
                                  AV.e (EV.s (SV.ptr 1 0)), AV.e (EV.s (SV.ptr 3 0)),
                                  AV.e (EV.s (SV.d (Value.int IntKind.i64 i)))],
                                [AB.ro 5 ns (stF f),
                                  AB.cells 86
                                    [SV.d (Value.int IntKind.i64 (takeL L (f (0 + i.toNat)).seq).room),
                                      SV.d (Value.int IntKind.u64 (takeL L (f (0 + i.toNat)).seq).first),
                                      SV.d (Value.int IntKind.u64 (takeL L (f (0 + i.toNat)).seq).next),
                                      SV.d (Value.int IntKind.i64 (takeL L (f (0 + i.toNat)).seq).last), SV.mp 2],
                                  AB.pm (takeL L (f (0 + i.toNat)).seq).es,
                                  AB.cells 44
                                    [SV.d
                                        (Value.int IntKind.i64
                                          (takeL
                                              { room := L.room, first := L.first, next := L.next, last := L.last,
                                                es := rowPk L.es.length (pkG L.es) : LSt }
                                              (f (0 + i.toNat)).seq).room),
                                      SV.d
                                        (Value.int IntKind.u64
                                          (takeL
                                              { room := L.room, first := L.first, next := L.next, last := L.last,
                                                es := rowPk L.es.length (pkG L.es) : LSt }
                                              (f (0 + i.toNat)).seq).first),
                                      SV.d
                                        (Value.int IntKind.u64
                                          (takeL
                                              { room := L.room, first := L.first, next := L.next, last := L.last,
                                                es := rowPk L.es.length (pkG L.es) : LSt }
                                              (f (0 + i.toNat)).seq).next),
                                      SV.d
                                        (Value.int IntKind.i64
                                          (takeL
                                              { room := L.room, first := L.first, next := L.next, last := L.last,
                                                es := rowPk L.es.length (pkG L.es) : LSt }
                                              (f (0 + i.toNat)).seq).last),
                                      SV.sl 7 4 0
                                        (takeL
                                              { room := L.room, first := L.first, next := L.next, last := L.last,
                                                es := rowPk L.es.length (pkG L.es) : LSt }
                                              (f (0 + i.toNat)).seq).es.length
                                        0],
                                  AB.dead,
                                  AB.cells 32
                                    [SV.d (Value.int IntKind.i64 (f (0 + i.toNat)).kind),
                                      SV.d (Value.int IntKind.i64 (f (0 + i.toNat)).mi),
                                      SV.d (Value.int IntKind.i64 (f (0 + i.toNat)).size),
                                      SV.d (Value.int IntKind.i64 (f (0 + i.toNat)).att),
                                      SV.d (Value.int IntKind.u64 (f (0 + i.toNat)).seq)],
                                  AB.cells 36
                                    [SV.d (Value.int IntKind.u64 (takeP L (f (0 + i.toNat)).seq).seq),
                                      SV.d (Value.int IntKind.i64 (takeP L (f (0 + i.toNat)).seq).mi),
                                      SV.d (Value.int IntKind.i64 (takeP L (f (0 + i.toNat)).seq).size),
                                      SV.d (Value.int IntKind.i64 (takeP L (f (0 + i.toNat)).seq).sent)],
                                  AB.row 36 4
                                    (takeL
                                          { room := L.room, first := L.first, next := L.next, last := L.last,
                                            es := rowPk L.es.length (pkG L.es) : LSt }
                                          (f (0 + i.toNat)).seq).es.length
                                    (pkG
                                      (takeL
                                          { room := L.room, first := L.first, next := L.next, last := L.last,
                                            es := rowPk L.es.length (pkG L.es) : LSt }
                                          (f (0 + i.toNat)).seq).es),
                                  AB.cells 36
                                    [SV.d
                                        (Value.int IntKind.u64
                                          (takeP
                                              { room := L.room, first := L.first, next := L.next, last := L.last,
                                                es := rowPk L.es.length (pkG L.es) : LSt }
                                              (f (0 + i.toNat)).seq).seq),
                                      SV.d
                                        (Value.int IntKind.i64
                                          (takeP
                                              { room := L.room, first := L.first, next := L.next, last := L.last,
                                                es := rowPk L.es.length (pkG L.es) : LSt }
                                              (f (0 + i.toNat)).seq).mi),
                                      SV.d
                                        (Value.int IntKind.i64
                                          (takeP
                                              { room := L.room, first := L.first, next := L.next, last := L.last,
                                                es := rowPk L.es.length (pkG L.es) : LSt }
                                              (f (0 + i.toNat)).seq).size),
                                      SV.d
                                        (Value.int IntKind.i64
                                          (takeP
                                              { room := L.room, first := L.first, next := L.next, last := L.last,
                                                es := rowPk L.es.length (pkG L.es) : LSt }
                                              (f (0 + i.toNat)).seq).sent)],
                                  AB.row 36 4 (takeL L (f (0 + i.toNat)).seq).es.length
                                    (pkG (takeL L (f (0 + i.toNat)).seq).es)])))))))))
              (T.need (L.Ok ∧ I64 (f (0 + i.toNat)).att ∧ I64 (f (0 + i.toNat)).size)
                (T.need
                  (some
                      (AB.cells 32
                        [SV.d (Value.int IntKind.i64 (f (0 + i.toNat)).kind),
                          SV.d (Value.int IntKind.i64 (f (0 + i.toNat)).mi),
                          SV.d (Value.int IntKind.i64 (f (0 + i.toNat)).size),
                          SV.d (Value.int IntKind.i64 (f (0 + i.toNat)).att),
                          SV.d (Value.int IntKind.u64 (f (0 + i.toNat)).seq)]) =
                    some
                      (AB.cells 32
                        [SV.d (Value.int IntKind.i64 (f (0 + i.toNat)).kind),
                          SV.d (Value.int IntKind.i64 (f (0 + i.toNat)).mi),
                          SV.d (Value.int IntKind.i64 (f (0 + i.toNat)).size),
                          SV.d (Value.int IntKind.i64 (f (0 + i.toNat)).att),
                          SV.d (Value.int IntKind.u64 (f (0 + i.toNat)).seq)]))
                  (T.need
                    (some
                        (AB.cells 32
                          [SV.d (Value.int IntKind.i64 (f (0 + i.toNat)).kind),
                            SV.d (Value.int IntKind.i64 (f (0 + i.toNat)).mi),
                            SV.d (Value.int IntKind.i64 (f (0 + i.toNat)).size),
                            SV.d (Value.int IntKind.i64 (f (0 + i.toNat)).att),
                            SV.d (Value.int IntKind.u64 (f (0 + i.toNat)).seq)]) =
                      some
                        (AB.cells 32
                          [SV.d (Value.int IntKind.i64 (f (0 + i.toNat)).kind),
                            SV.d (Value.int IntKind.i64 (f (0 + i.toNat)).mi),
                            SV.d (Value.int IntKind.i64 (f (0 + i.toNat)).size),
                            SV.d (Value.int IntKind.i64 (f (0 + i.toNat)).att),
                            SV.d (Value.int IntKind.u64 (f (0 + i.toNat)).seq)]))
                    (T.need
                      ((L.es.length = L.es.length ∧ PkRow L.es.length (pkG L.es)) ∧
                        { room := L.room, first := L.first, next := L.next, last := L.last,
                              es := rowPk L.es.length (pkG L.es) : LSt }.Ok ∧
                          I64 (f (0 + i.toNat)).att ∧ I64 (f (0 + i.toNat)).size)
                      (T.need
                        ((0 + (expP L (f (0 + i.toNat)).att (f (0 + i.toNat)).size).length ≤
                              (expP L (f (0 + i.toNat)).att (f (0 + i.toNat)).size).length ∧
                            0 +
                                  (expP
                                      { room := L.room, first := L.first, next := L.next, last := L.last,
                                        es := rowPk L.es.length (pkG L.es) : LSt }
                                      (f (0 + i.toNat)).att (f (0 + i.toNat)).size).length ≤
                                (expP
                                    { room := L.room, first := L.first, next := L.next, last := L.last,
                                      es := rowPk L.es.length (pkG L.es) : LSt }
                                    (f (0 + i.toNat)).att (f (0 + i.toNat)).size).length ∧
                              (expP L (f (0 + i.toNat)).att (f (0 + i.toNat)).size).length ≤ most) ∧
                          PkRow (expP L (f (0 + i.toNat)).att (f (0 + i.toNat)).size).length
                              (pkG (expP L (f (0 + i.toNat)).att (f (0 + i.toNat)).size)) ∧
                            PkRow
                              (expP
                                  { room := L.room, first := L.first, next := L.next, last := L.last,
                                    es := rowPk L.es.length (pkG L.es) : LSt }
                                  (f (0 + i.toNat)).att (f (0 + i.toNat)).size).length
                              (pkG
                                (expP
                                  { room := L.room, first := L.first, next := L.next, last := L.last,
                                    es := rowPk L.es.length (pkG L.es) : LSt }
                                  (f (0 + i.toNat)).att (f (0 + i.toNat)).size)))
                        (T.ite
                          (samePk (expP L (f (0 + i.toNat)).att (f (0 + i.toNat)).size).length
                            (fun x => decPkt (pkG (expP L (f (0 + i.toNat)).att (f (0 + i.toNat)).size) (0 + x)))
                            (expP
                                { room := L.room, first := L.first, next := L.next, last := L.last,
                                  es := rowPk L.es.length (pkG L.es) : LSt }
                                (f (0 + i.toNat)).att (f (0 + i.toNat)).size).length
                            fun x =>
                            decPkt
                              (pkG
                                (expP
                                  { room := L.room, first := L.first, next := L.next, last := L.last,
                                    es := rowPk L.es.length (pkG L.es) : LSt }
                                  (f (0 + i.toNat)).att (f (0 + i.toNat)).size)
                                (0 + x)))
                          (T.need (expL L (f (0 + i.toNat)).att (f (0 + i.toNat)).size).Ok
                            (T.need
                              (some
                                  (AB.cells 44
                                    [SV.d
                                        (Value.int IntKind.i64
                                          (expL
                                              { room := L.room, first := L.first, next := L.next, last := L.last,
                                                es := rowPk L.es.length (pkG L.es) : LSt }
                                              (f (0 + i.toNat)).att (f (0 + i.toNat)).size).room),
                                      SV.d
                                        (Value.int IntKind.u64
                                          (expL
                                              { room := L.room, first := L.first, next := L.next, last := L.last,
                                                es := rowPk L.es.length (pkG L.es) : LSt }
                                              (f (0 + i.toNat)).att (f (0 + i.toNat)).size).first),
                                      SV.d
                                        (Value.int IntKind.u64
                                          (expL
                                              { room := L.room, first := L.first, next := L.next, last := L.last,
                                                es := rowPk L.es.length (pkG L.es) : LSt }
                                              (f (0 + i.toNat)).att (f (0 + i.toNat)).size).next),
                                      SV.d
                                        (Value.int IntKind.i64
                                          (expL
                                              { room := L.room, first := L.first, next := L.next, last := L.last,
                                                es := rowPk L.es.length (pkG L.es) : LSt }
                                              (f (0 + i.toNat)).att (f (0 + i.toNat)).size).last),
                                      SV.sl 7 4 0
                                        (expL
                                              { room := L.room, first := L.first, next := L.next, last := L.last,
                                                es := rowPk L.es.length (pkG L.es) : LSt }
                                              (f (0 + i.toNat)).att (f (0 + i.toNat)).size).es.length
                                        0]) =
                                some
                                  (AB.cells 44
                                    [SV.d
                                        (Value.int IntKind.i64
                                          (expL
                                              { room := L.room, first := L.first, next := L.next, last := L.last,
                                                es := rowPk L.es.length (pkG L.es) : LSt }
                                              (f (0 + i.toNat)).att (f (0 + i.toNat)).size).room),
                                      SV.d
                                        (Value.int IntKind.u64
                                          (expL
                                              { room := L.room, first := L.first, next := L.next, last := L.last,
                                                es := rowPk L.es.length (pkG L.es) : LSt }
                                              (f (0 + i.toNat)).att (f (0 + i.toNat)).size).first),
                                      SV.d
                                        (Value.int IntKind.u64
                                          (expL
                                              { room := L.room, first := L.first, next := L.next, last := L.last,
                                                es := rowPk L.es.length (pkG L.es) : LSt }
                                              (f (0 + i.toNat)).att (f (0 + i.toNat)).size).next),
                                      SV.d
                                        (Value.int IntKind.i64
                                          (expL
                                              { room := L.room, first := L.first, next := L.next, last := L.last,
                                                es := rowPk L.es.length (pkG L.es) : LSt }
                                              (f (0 + i.toNat)).att (f (0 + i.toNat)).size).last),
                                      SV.sl 7 4 0
                                        (expL
                                              { room := L.room, first := L.first, next := L.next, last := L.last,
                                                es := rowPk L.es.length (pkG L.es) : LSt }
                                              (f (0 + i.toNat)).att (f (0 + i.toNat)).size).es.length
                                        0]))
                              (T.need
                                ((0 + (expL L (f (0 + i.toNat)).att (f (0 + i.toNat)).size).es.length ≤
                                      (expL L (f (0 + i.toNat)).att (f (0 + i.toNat)).size).es.length ∧
                                    0 +
                                          (expL
                                                { room := L.room, first := L.first, next := L.next, last := L.last,
                                                  es := rowPk L.es.length (pkG L.es) : LSt }
                                                (f (0 + i.toNat)).att (f (0 + i.toNat)).size).es.length ≤
                                        (expL
                                              { room := L.room, first := L.first, next := L.next, last := L.last,
                                                es := rowPk L.es.length (pkG L.es) : LSt }
                                              (f (0 + i.toNat)).att (f (0 + i.toNat)).size).es.length ∧
                                      (expL L (f (0 + i.toNat)).att (f (0 + i.toNat)).size).es.length ≤ most) ∧
                                  PkRow (expL L (f (0 + i.toNat)).att (f (0 + i.toNat)).size).es.length
                                      (pkG (expL L (f (0 + i.toNat)).att (f (0 + i.toNat)).size).es) ∧
                                    PkRow
                                      (expL
                                            { room := L.room, first := L.first, next := L.next, last := L.last,
                                              es := rowPk L.es.length (pkG L.es) : LSt }
                                            (f (0 + i.toNat)).att (f (0 + i.toNat)).size).es.length
                                      (pkG
                                        (expL
                                            { room := L.room, first := L.first, next := L.next, last := L.last,
                                              es := rowPk L.es.length (pkG L.es) : LSt }
                                            (f (0 + i.toNat)).att (f (0 + i.toNat)).size).es))
                                (T.ite
                                  (samePk (expL L (f (0 + i.toNat)).att (f (0 + i.toNat)).size).es.length
                                    (fun x => decPkt (pkG (expL L (f (0 + i.toNat)).att (f (0 + i.toNat)).size).es (0 + x)))
                                    (expL
                                          { room := L.room, first := L.first, next := L.next, last := L.last,
                                            es := rowPk L.es.length (pkG L.es) : LSt }
                                          (f (0 + i.toNat)).att (f (0 + i.toNat)).size).es.length
                                    fun x =>
                                    decPkt
                                      (pkG
                                        (expL
                                            { room := L.room, first := L.first, next := L.next, last := L.last,
                                              es := rowPk L.es.length (pkG L.es) : LSt }
                                            (f (0 + i.toNat)).att (f (0 + i.toNat)).size).es
                                        (0 + x)))
                                  (T.need
                                    (some
                                        (AB.cells 44
                                          [SV.d
                                              (Value.int IntKind.i64
                                                (expL
                                                    { room := L.room, first := L.first, next := L.next, last := L.last,
                                                      es := rowPk L.es.length (pkG L.es) : LSt }
                                                    (f (0 + i.toNat)).att (f (0 + i.toNat)).size).room),
                                            SV.d
                                              (Value.int IntKind.u64
                                                (expL
                                                    { room := L.room, first := L.first, next := L.next, last := L.last,
                                                      es := rowPk L.es.length (pkG L.es) : LSt }
                                                    (f (0 + i.toNat)).att (f (0 + i.toNat)).size).first),
                                            SV.d
                                              (Value.int IntKind.u64
                                                (expL
                                                    { room := L.room, first := L.first, next := L.next, last := L.last,
                                                      es := rowPk L.es.length (pkG L.es) : LSt }
                                                    (f (0 + i.toNat)).att (f (0 + i.toNat)).size).next),
                                            SV.d
                                              (Value.int IntKind.i64
                                                (expL
                                                    { room := L.room, first := L.first, next := L.next, last := L.last,
                                                      es := rowPk L.es.length (pkG L.es) : LSt }
                                                    (f (0 + i.toNat)).att (f (0 + i.toNat)).size).last),
                                            SV.sl 7 4 0
                                              (expL
                                                    { room := L.room, first := L.first, next := L.next, last := L.last,
                                                      es := rowPk L.es.length (pkG L.es) : LSt }
                                                    (f (0 + i.toNat)).att (f (0 + i.toNat)).size).es.length
                                              0]) =
                                      some
                                        (AB.cells 44
                                          [SV.d
                                              (Value.int IntKind.i64
                                                (expL
                                                    { room := L.room, first := L.first, next := L.next, last := L.last,
                                                      es := rowPk L.es.length (pkG L.es) : LSt }
                                                    (f (0 + i.toNat)).att (f (0 + i.toNat)).size).room),
                                            SV.d
                                              (Value.int IntKind.u64
                                                (expL
                                                    { room := L.room, first := L.first, next := L.next, last := L.last,
                                                      es := rowPk L.es.length (pkG L.es) : LSt }
                                                    (f (0 + i.toNat)).att (f (0 + i.toNat)).size).first),
                                            SV.d
                                              (Value.int IntKind.u64
                                                (expL
                                                    { room := L.room, first := L.first, next := L.next, last := L.last,
                                                      es := rowPk L.es.length (pkG L.es) : LSt }
                                                    (f (0 + i.toNat)).att (f (0 + i.toNat)).size).next),
                                            SV.d
                                              (Value.int IntKind.i64
                                                (expL
                                                    { room := L.room, first := L.first, next := L.next, last := L.last,
                                                      es := rowPk L.es.length (pkG L.es) : LSt }
                                                    (f (0 + i.toNat)).att (f (0 + i.toNat)).size).last),
                                            SV.sl 7 4 0
                                              (expL
                                                    { room := L.room, first := L.first, next := L.next, last := L.last,
                                                      es := rowPk L.es.length (pkG L.es) : LSt }
                                                    (f (0 + i.toNat)).att (f (0 + i.toNat)).size).es.length
                                              0]))
                                    (T.ite
                                      ((expL L (f (0 + i.toNat)).att (f (0 + i.toNat)).size).next !=
                                        (expL
                                            { room := L.room, first := L.first, next := L.next, last := L.last,
                                              es := rowPk L.es.length (pkG L.es) : LSt }
                                            (f (0 + i.toNat)).att (f (0 + i.toNat)).size).next)
                                      (T.ret
                                        (Exit.ret,
                                          [AV.e (EV.s (SV.d (Value.int IntKind.i64 room))), AV.e (EV.s (SV.sl 0 5 0 ns z)),
                                            AV.e (EV.s (SV.ptr 1 0)), AV.e (EV.s (SV.ptr 3 0)),
                                            AV.e (EV.s (SV.d (Value.int IntKind.i64 i)))],
                                          [AB.ro 5 ns (stF f),
                                            AB.cells 86
                                              [SV.d
                                                  (Value.int IntKind.i64
                                                    (expL L (f (0 + i.toNat)).att (f (0 + i.toNat)).size).room),
                                                SV.d
                                                  (Value.int IntKind.u64
                                                    (expL L (f (0 + i.toNat)).att (f (0 + i.toNat)).size).first),
                                                SV.d
                                                  (Value.int IntKind.u64
                                                    (expL L (f (0 + i.toNat)).att (f (0 + i.toNat)).size).next),
                                                SV.d
                                                  (Value.int IntKind.i64
                                                    (expL L (f (0 + i.toNat)).att (f (0 + i.toNat)).size).last),
                                                SV.mp 2],
                                            AB.pm (expL L (f (0 + i.toNat)).att (f (0 + i.toNat)).size).es,
                                            AB.cells 44
                                              [SV.d
                                                  (Value.int IntKind.i64
                                                    (expL
                                                        { room := L.room, first := L.first, next := L.next, last := L.last,
                                                          es := rowPk L.es.length (pkG L.es) : LSt }
                                                        (f (0 + i.toNat)).att (f (0 + i.toNat)).size).room),
                                                SV.d
                                                  (Value.int IntKind.u64
                                                    (expL
                                                        { room := L.room, first := L.first, next := L.next, last := L.last,
                                                          es := rowPk L.es.length (pkG L.es) : LSt }
                                                        (f (0 + i.toNat)).att (f (0 + i.toNat)).size).first),
                                                SV.d
                                                  (Value.int IntKind.u64
                                                    (expL
                                                        { room := L.room, first := L.first, next := L.next, last := L.last,
                                                          es := rowPk L.es.length (pkG L.es) : LSt }
                                                        (f (0 + i.toNat)).att (f (0 + i.toNat)).size).next),
                                                SV.d
                                                  (Value.int IntKind.i64
                                                    (expL
                                                        { room := L.room, first := L.first, next := L.next, last := L.last,
                                                          es := rowPk L.es.length (pkG L.es) : LSt }
                                                        (f (0 + i.toNat)).att (f (0 + i.toNat)).size).last),
                                                SV.sl 7 4 0
                                                  (expL
                                                        { room := L.room, first := L.first, next := L.next, last := L.last,
                                                          es := rowPk L.es.length (pkG L.es) : LSt }
                                                        (f (0 + i.toNat)).att (f (0 + i.toNat)).size).es.length
                                                  0],
                                            AB.dead,
                                            AB.cells 32
                                              [SV.d (Value.int IntKind.i64 (f (0 + i.toNat)).kind),
                                                SV.d (Value.int IntKind.i64 (f (0 + i.toNat)).mi),
                                                SV.d (Value.int IntKind.i64 (f (0 + i.toNat)).size),
                                                SV.d (Value.int IntKind.i64 (f (0 + i.toNat)).att),
                                                SV.d (Value.int IntKind.u64 (f (0 + i.toNat)).seq)],
                                            AB.row 36 4 (expP L (f (0 + i.toNat)).att (f (0 + i.toNat)).size).length
                                              (pkG (expP L (f (0 + i.toNat)).att (f (0 + i.toNat)).size)),
                                            AB.row 36 4
                                              (expL
                                                    { room := L.room, first := L.first, next := L.next, last := L.last,
                                                      es := rowPk L.es.length (pkG L.es) : LSt }
                                                    (f (0 + i.toNat)).att (f (0 + i.toNat)).size).es.length
                                              (pkG
                                                (expL
                                                    { room := L.room, first := L.first, next := L.next, last := L.last,
                                                      es := rowPk L.es.length (pkG L.es) : LSt }
                                                    (f (0 + i.toNat)).att (f (0 + i.toNat)).size).es),
                                            AB.row 36 4
                                              (expP
                                                  { room := L.room, first := L.first, next := L.next, last := L.last,
                                                    es := rowPk L.es.length (pkG L.es) : LSt }
                                                  (f (0 + i.toNat)).att (f (0 + i.toNat)).size).length
                                              (pkG
                                                (expP
                                                  { room := L.room, first := L.first, next := L.next, last := L.last,
                                                    es := rowPk L.es.length (pkG L.es) : LSt }
                                                  (f (0 + i.toNat)).att (f (0 + i.toNat)).size)),
                                            AB.row 36 4 (expL L (f (0 + i.toNat)).att (f (0 + i.toNat)).size).es.length
                                              (pkG (expL L (f (0 + i.toNat)).att (f (0 + i.toNat)).size).es)]))
                                      (T.need
                                        (some
                                            (AB.cells 44
                                              [SV.d
                                                  (Value.int IntKind.i64
                                                    (expL
                                                        { room := L.room, first := L.first, next := L.next, last := L.last,
                                                          es := rowPk L.es.length (pkG L.es) : LSt }
                                                        (f (0 + i.toNat)).att (f (0 + i.toNat)).size).room),
                                                SV.d
                                                  (Value.int IntKind.u64
                                                    (expL
                                                        { room := L.room, first := L.first, next := L.next, last := L.last,
                                                          es := rowPk L.es.length (pkG L.es) : LSt }
                                                        (f (0 + i.toNat)).att (f (0 + i.toNat)).size).first),
                                                SV.d
                                                  (Value.int IntKind.u64
                                                    (expL
                                                        { room := L.room, first := L.first, next := L.next, last := L.last,
                                                          es := rowPk L.es.length (pkG L.es) : LSt }
                                                        (f (0 + i.toNat)).att (f (0 + i.toNat)).size).next),
                                                SV.d
                                                  (Value.int IntKind.i64
                                                    (expL
                                                        { room := L.room, first := L.first, next := L.next, last := L.last,
                                                          es := rowPk L.es.length (pkG L.es) : LSt }
                                                        (f (0 + i.toNat)).att (f (0 + i.toNat)).size).last),
                                                SV.sl 7 4 0
                                                  (expL
                                                        { room := L.room, first := L.first, next := L.next, last := L.last,
                                                          es := rowPk L.es.length (pkG L.es) : LSt }
                                                        (f (0 + i.toNat)).att (f (0 + i.toNat)).size).es.length
                                                  0]) =
                                          some
                                            (AB.cells 44
                                              [SV.d
                                                  (Value.int IntKind.i64
                                                    (expL
                                                        { room := L.room, first := L.first, next := L.next, last := L.last,
                                                          es := rowPk L.es.length (pkG L.es) : LSt }
                                                        (f (0 + i.toNat)).att (f (0 + i.toNat)).size).room),
                                                SV.d
                                                  (Value.int IntKind.u64
                                                    (expL
                                                        { room := L.room, first := L.first, next := L.next, last := L.last,
                                                          es := rowPk L.es.length (pkG L.es) : LSt }
                                                        (f (0 + i.toNat)).att (f (0 + i.toNat)).size).first),
                                                SV.d
                                                  (Value.int IntKind.u64
                                                    (expL
                                                        { room := L.room, first := L.first, next := L.next, last := L.last,
                                                          es := rowPk L.es.length (pkG L.es) : LSt }
                                                        (f (0 + i.toNat)).att (f (0 + i.toNat)).size).next),
                                                SV.d
                                                  (Value.int IntKind.i64
                                                    (expL
                                                        { room := L.room, first := L.first, next := L.next, last := L.last,
                                                          es := rowPk L.es.length (pkG L.es) : LSt }
                                                        (f (0 + i.toNat)).att (f (0 + i.toNat)).size).last),
                                                SV.sl 7 4 0
                                                  (expL
                                                        { room := L.room, first := L.first, next := L.next, last := L.last,
                                                          es := rowPk L.es.length (pkG L.es) : LSt }
                                                        (f (0 + i.toNat)).att (f (0 + i.toNat)).size).es.length
                                                  0]))
                                        (T.ite
                                          (IntKind.i64.wrap
                                              ((expL L (f (0 + i.toNat)).att (f (0 + i.toNat)).size).room -
                                                (↑(expL L (f (0 + i.toNat)).att (f (0 + i.toNat)).size).es.length : Int)) !=
                                            IntKind.i64.wrap
                                              (room -
                                                (↑(expL
                                                          { room := L.room, first := L.first, next := L.next,
                                                            last := L.last, es := rowPk L.es.length (pkG L.es) : LSt }
                                                          (f (0 + i.toNat)).att (f (0 + i.toNat)).size).es.length :
                                                  Int)))
                                          (T.ret
                                            (Exit.ret,
                                              [AV.e (EV.s (SV.d (Value.int IntKind.i64 room))),
                                                AV.e (EV.s (SV.sl 0 5 0 ns z)), AV.e (EV.s (SV.ptr 1 0)),
                                                AV.e (EV.s (SV.ptr 3 0)), AV.e (EV.s (SV.d (Value.int IntKind.i64 i)))],
                                              [AB.ro 5 ns (stF f),
                                                AB.cells 86
                                                  [SV.d
                                                      (Value.int IntKind.i64
                                                        (expL L (f (0 + i.toNat)).att (f (0 + i.toNat)).size).room),
                                                    SV.d
                                                      (Value.int IntKind.u64
                                                        (expL L (f (0 + i.toNat)).att (f (0 + i.toNat)).size).first),
                                                    SV.d
                                                      (Value.int IntKind.u64
                                                        (expL L (f (0 + i.toNat)).att (f (0 + i.toNat)).size).next),
                                                    SV.d
                                                      (Value.int IntKind.i64
                                                        (expL L (f (0 + i.toNat)).att (f (0 + i.toNat)).size).last),
                                                    SV.mp 2],
                                                AB.pm (expL L (f (0 + i.toNat)).att (f (0 + i.toNat)).size).es,
                                                AB.cells 44
                                                  [SV.d
                                                      (Value.int IntKind.i64
                                                        (expL
                                                            { room := L.room, first := L.first, next := L.next,
                                                              last := L.last, es := rowPk L.es.length (pkG L.es) : LSt }
                                                            (f (0 + i.toNat)).att (f (0 + i.toNat)).size).room),
                                                    SV.d
                                                      (Value.int IntKind.u64
                                                        (expL
                                                            { room := L.room, first := L.first, next := L.next,
                                                              last := L.last, es := rowPk L.es.length (pkG L.es) : LSt }
                                                            (f (0 + i.toNat)).att (f (0 + i.toNat)).size).first),
                                                    SV.d
                                                      (Value.int IntKind.u64
                                                        (expL
                                                            { room := L.room, first := L.first, next := L.next,
                                                              last := L.last, es := rowPk L.es.length (pkG L.es) : LSt }
                                                            (f (0 + i.toNat)).att (f (0 + i.toNat)).size).next),
                                                    SV.d
                                                      (Value.int IntKind.i64
                                                        (expL
                                                            { room := L.room, first := L.first, next := L.next,
                                                              last := L.last, es := rowPk L.es.length (pkG L.es) : LSt }
                                                            (f (0 + i.toNat)).att (f (0 + i.toNat)).size).last),
                                                    SV.sl 7 4 0
                                                      (expL
                                                            { room := L.room, first := L.first, next := L.next,
                                                              last := L.last, es := rowPk L.es.length (pkG L.es) : LSt }
                                                            (f (0 + i.toNat)).att (f (0 + i.toNat)).size).es.length
                                                      0],
                                                AB.dead,
                                                AB.cells 32
                                                  [SV.d (Value.int IntKind.i64 (f (0 + i.toNat)).kind),
                                                    SV.d (Value.int IntKind.i64 (f (0 + i.toNat)).mi),
                                                    SV.d (Value.int IntKind.i64 (f (0 + i.toNat)).size),
                                                    SV.d (Value.int IntKind.i64 (f (0 + i.toNat)).att),
                                                    SV.d (Value.int IntKind.u64 (f (0 + i.toNat)).seq)],
                                                AB.row 36 4 (expP L (f (0 + i.toNat)).att (f (0 + i.toNat)).size).length
                                                  (pkG (expP L (f (0 + i.toNat)).att (f (0 + i.toNat)).size)),
                                                AB.row 36 4
                                                  (expL
                                                        { room := L.room, first := L.first, next := L.next, last := L.last,
                                                          es := rowPk L.es.length (pkG L.es) : LSt }
                                                        (f (0 + i.toNat)).att (f (0 + i.toNat)).size).es.length
                                                  (pkG
                                                    (expL
                                                        { room := L.room, first := L.first, next := L.next, last := L.last,
                                                          es := rowPk L.es.length (pkG L.es) : LSt }
                                                        (f (0 + i.toNat)).att (f (0 + i.toNat)).size).es),
                                                AB.row 36 4
                                                  (expP
                                                      { room := L.room, first := L.first, next := L.next, last := L.last,
                                                        es := rowPk L.es.length (pkG L.es) : LSt }
                                                      (f (0 + i.toNat)).att (f (0 + i.toNat)).size).length
                                                  (pkG
                                                    (expP
                                                      { room := L.room, first := L.first, next := L.next, last := L.last,
                                                        es := rowPk L.es.length (pkG L.es) : LSt }
                                                      (f (0 + i.toNat)).att (f (0 + i.toNat)).size)),
                                                AB.row 36 4 (expL L (f (0 + i.toNat)).att (f (0 + i.toNat)).size).es.length
                                                  (pkG (expL L (f (0 + i.toNat)).att (f (0 + i.toNat)).size).es)]))
                                          (T.ret
                                            (Exit.normal,
                                              [AV.e (EV.s (SV.d (Value.int IntKind.i64 room))),
                                                AV.e (EV.s (SV.sl 0 5 0 ns z)), AV.e (EV.s (SV.ptr 1 0)),
                                                AV.e (EV.s (SV.ptr 3 0)),
                                                AV.e (EV.s (SV.d (Value.int IntKind.i64 (IntKind.i64.wrap (i + 1)))))],
                                              [AB.ro 5 ns (stF f),
                                                AB.cells 86
                                                  [SV.d
                                                      (Value.int IntKind.i64
                                                        (expL L (f (0 + i.toNat)).att (f (0 + i.toNat)).size).room),
                                                    SV.d
                                                      (Value.int IntKind.u64
                                                        (expL L (f (0 + i.toNat)).att (f (0 + i.toNat)).size).first),
                                                    SV.d
                                                      (Value.int IntKind.u64
                                                        (expL L (f (0 + i.toNat)).att (f (0 + i.toNat)).size).next),
                                                    SV.d
                                                      (Value.int IntKind.i64
                                                        (expL L (f (0 + i.toNat)).att (f (0 + i.toNat)).size).last),
                                                    SV.mp 2],
                                                AB.pm (expL L (f (0 + i.toNat)).att (f (0 + i.toNat)).size).es,
                                                AB.cells 44
                                                  [SV.d
                                                      (Value.int IntKind.i64
                                                        (expL
                                                            { room := L.room, first := L.first, next := L.next,
                                                              last := L.last, es := rowPk L.es.length (pkG L.es) : LSt }
                                                            (f (0 + i.toNat)).att (f (0 + i.toNat)).size).room),
                                                    SV.d
                                                      (Value.int IntKind.u64
                                                        (expL
                                                            { room := L.room, first := L.first, next := L.next,
                                                              last := L.last, es := rowPk L.es.length (pkG L.es) : LSt }
                                                            (f (0 + i.toNat)).att (f (0 + i.toNat)).size).first),
                                                    SV.d
                                                      (Value.int IntKind.u64
                                                        (expL
                                                            { room := L.room, first := L.first, next := L.next,
                                                              last := L.last, es := rowPk L.es.length (pkG L.es) : LSt }
                                                            (f (0 + i.toNat)).att (f (0 + i.toNat)).size).next),
                                                    SV.d
                                                      (Value.int IntKind.i64
                                                        (expL
                                                            { room := L.room, first := L.first, next := L.next,
                                                              last := L.last, es := rowPk L.es.length (pkG L.es) : LSt }
                                                            (f (0 + i.toNat)).att (f (0 + i.toNat)).size).last),
                                                    SV.sl 7 4 0
                                                      (expL
                                                            { room := L.room, first := L.first, next := L.next,
                                                              last := L.last, es := rowPk L.es.length (pkG L.es) : LSt }
                                                            (f (0 + i.toNat)).att (f (0 + i.toNat)).size).es.length
                                                      0],
                                                AB.dead,
                                                AB.cells 32
                                                  [SV.d (Value.int IntKind.i64 (f (0 + i.toNat)).kind),
                                                    SV.d (Value.int IntKind.i64 (f (0 + i.toNat)).mi),
                                                    SV.d (Value.int IntKind.i64 (f (0 + i.toNat)).size),
                                                    SV.d (Value.int IntKind.i64 (f (0 + i.toNat)).att),
                                                    SV.d (Value.int IntKind.u64 (f (0 + i.toNat)).seq)],
                                                AB.row 36 4 (expP L (f (0 + i.toNat)).att (f (0 + i.toNat)).size).length
                                                  (pkG (expP L (f (0 + i.toNat)).att (f (0 + i.toNat)).size)),
                                                AB.row 36 4
                                                  (expL
                                                        { room := L.room, first := L.first, next := L.next, last := L.last,
                                                          es := rowPk L.es.length (pkG L.es) : LSt }
                                                        (f (0 + i.toNat)).att (f (0 + i.toNat)).size).es.length
                                                  (pkG
                                                    (expL
                                                        { room := L.room, first := L.first, next := L.next, last := L.last,
                                                          es := rowPk L.es.length (pkG L.es) : LSt }
                                                        (f (0 + i.toNat)).att (f (0 + i.toNat)).size).es),
                                                AB.row 36 4
                                                  (expP
                                                      { room := L.room, first := L.first, next := L.next, last := L.last,
                                                        es := rowPk L.es.length (pkG L.es) : LSt }
                                                      (f (0 + i.toNat)).att (f (0 + i.toNat)).size).length
                                                  (pkG
                                                    (expP
                                                      { room := L.room, first := L.first, next := L.next, last := L.last,
                                                        es := rowPk L.es.length (pkG L.es) : LSt }
                                                      (f (0 + i.toNat)).att (f (0 + i.toNat)).size)),
                                                AB.row 36 4 (expL L (f (0 + i.toNat)).att (f (0 + i.toNat)).size).es.length
                                                  (pkG (expL L (f (0 + i.toNat)).att (f (0 + i.toNat)).size).es)]))))))
                                  (T.ret
                                    (Exit.ret,
                                      [AV.e (EV.s (SV.d (Value.int IntKind.i64 room))), AV.e (EV.s (SV.sl 0 5 0 ns z)),
                                        AV.e (EV.s (SV.ptr 1 0)), AV.e (EV.s (SV.ptr 3 0)),
                                        AV.e (EV.s (SV.d (Value.int IntKind.i64 i)))],
                                      [AB.ro 5 ns (stF f),
                                        AB.cells 86
                                          [SV.d
                                              (Value.int IntKind.i64
                                                (expL L (f (0 + i.toNat)).att (f (0 + i.toNat)).size).room),
                                            SV.d
                                              (Value.int IntKind.u64
                                                (expL L (f (0 + i.toNat)).att (f (0 + i.toNat)).size).first),
                                            SV.d
                                              (Value.int IntKind.u64
                                                (expL L (f (0 + i.toNat)).att (f (0 + i.toNat)).size).next),
                                            SV.d
                                              (Value.int IntKind.i64
                                                (expL L (f (0 + i.toNat)).att (f (0 + i.toNat)).size).last),
                                            SV.mp 2],
                                        AB.pm (expL L (f (0 + i.toNat)).att (f (0 + i.toNat)).size).es,
                                        AB.cells 44
                                          [SV.d
                                              (Value.int IntKind.i64
                                                (expL
                                                    { room := L.room, first := L.first, next := L.next, last := L.last,
                                                      es := rowPk L.es.length (pkG L.es) : LSt }
                                                    (f (0 + i.toNat)).att (f (0 + i.toNat)).size).room),
                                            SV.d
                                              (Value.int IntKind.u64
                                                (expL
                                                    { room := L.room, first := L.first, next := L.next, last := L.last,
                                                      es := rowPk L.es.length (pkG L.es) : LSt }
                                                    (f (0 + i.toNat)).att (f (0 + i.toNat)).size).first),
                                            SV.d
                                              (Value.int IntKind.u64
                                                (expL
                                                    { room := L.room, first := L.first, next := L.next, last := L.last,
                                                      es := rowPk L.es.length (pkG L.es) : LSt }
                                                    (f (0 + i.toNat)).att (f (0 + i.toNat)).size).next),
                                            SV.d
                                              (Value.int IntKind.i64
                                                (expL
                                                    { room := L.room, first := L.first, next := L.next, last := L.last,
                                                      es := rowPk L.es.length (pkG L.es) : LSt }
                                                    (f (0 + i.toNat)).att (f (0 + i.toNat)).size).last),
                                            SV.sl 7 4 0
                                              (expL
                                                    { room := L.room, first := L.first, next := L.next, last := L.last,
                                                      es := rowPk L.es.length (pkG L.es) : LSt }
                                                    (f (0 + i.toNat)).att (f (0 + i.toNat)).size).es.length
                                              0],
                                        AB.dead,
                                        AB.cells 32
                                          [SV.d (Value.int IntKind.i64 (f (0 + i.toNat)).kind),
                                            SV.d (Value.int IntKind.i64 (f (0 + i.toNat)).mi),
                                            SV.d (Value.int IntKind.i64 (f (0 + i.toNat)).size),
                                            SV.d (Value.int IntKind.i64 (f (0 + i.toNat)).att),
                                            SV.d (Value.int IntKind.u64 (f (0 + i.toNat)).seq)],
                                        AB.row 36 4 (expP L (f (0 + i.toNat)).att (f (0 + i.toNat)).size).length
                                          (pkG (expP L (f (0 + i.toNat)).att (f (0 + i.toNat)).size)),
                                        AB.row 36 4
                                          (expL
                                                { room := L.room, first := L.first, next := L.next, last := L.last,
                                                  es := rowPk L.es.length (pkG L.es) : LSt }
                                                (f (0 + i.toNat)).att (f (0 + i.toNat)).size).es.length
                                          (pkG
                                            (expL
                                                { room := L.room, first := L.first, next := L.next, last := L.last,
                                                  es := rowPk L.es.length (pkG L.es) : LSt }
                                                (f (0 + i.toNat)).att (f (0 + i.toNat)).size).es),
                                        AB.row 36 4
                                          (expP
                                              { room := L.room, first := L.first, next := L.next, last := L.last,
                                                es := rowPk L.es.length (pkG L.es) : LSt }
                                              (f (0 + i.toNat)).att (f (0 + i.toNat)).size).length
                                          (pkG
                                            (expP
                                              { room := L.room, first := L.first, next := L.next, last := L.last,
                                                es := rowPk L.es.length (pkG L.es) : LSt }
                                              (f (0 + i.toNat)).att (f (0 + i.toNat)).size)),
                                        AB.row 36 4 (expL L (f (0 + i.toNat)).att (f (0 + i.toNat)).size).es.length
                                          (pkG (expL L (f (0 + i.toNat)).att (f (0 + i.toNat)).size).es)]))))))
                          (T.ret
                            (Exit.ret,
                              [AV.e (EV.s (SV.d (Value.int IntKind.i64 room))), AV.e (EV.s (SV.sl 0 5 0 ns z)),
                                AV.e (EV.s (SV.ptr 1 0)), AV.e (EV.s (SV.ptr 3 0)),
                                AV.e (EV.s (SV.d (Value.int IntKind.i64 i)))],
                              [AB.ro 5 ns (stF f),
                                AB.cells 86
                                  [SV.d (Value.int IntKind.i64 (expL L (f (0 + i.toNat)).att (f (0 + i.toNat)).size).room),
                                    SV.d
                                      (Value.int IntKind.u64 (expL L (f (0 + i.toNat)).att (f (0 + i.toNat)).size).first),
                                    SV.d (Value.int IntKind.u64 (expL L (f (0 + i.toNat)).att (f (0 + i.toNat)).size).next),
                                    SV.d (Value.int IntKind.i64 (expL L (f (0 + i.toNat)).att (f (0 + i.toNat)).size).last),
                                    SV.mp 2],
                                AB.pm (expL L (f (0 + i.toNat)).att (f (0 + i.toNat)).size).es,
                                AB.cells 44
                                  [SV.d
                                      (Value.int IntKind.i64
                                        (expL
                                            { room := L.room, first := L.first, next := L.next, last := L.last,
                                              es := rowPk L.es.length (pkG L.es) : LSt }
                                            (f (0 + i.toNat)).att (f (0 + i.toNat)).size).room),
                                    SV.d
                                      (Value.int IntKind.u64
                                        (expL
                                            { room := L.room, first := L.first, next := L.next, last := L.last,
                                              es := rowPk L.es.length (pkG L.es) : LSt }
                                            (f (0 + i.toNat)).att (f (0 + i.toNat)).size).first),
                                    SV.d
                                      (Value.int IntKind.u64
                                        (expL
                                            { room := L.room, first := L.first, next := L.next, last := L.last,
                                              es := rowPk L.es.length (pkG L.es) : LSt }
                                            (f (0 + i.toNat)).att (f (0 + i.toNat)).size).next),
                                    SV.d
                                      (Value.int IntKind.i64
                                        (expL
                                            { room := L.room, first := L.first, next := L.next, last := L.last,
                                              es := rowPk L.es.length (pkG L.es) : LSt }
                                            (f (0 + i.toNat)).att (f (0 + i.toNat)).size).last),
                                    SV.sl 7 4 0
                                      (expL
                                            { room := L.room, first := L.first, next := L.next, last := L.last,
                                              es := rowPk L.es.length (pkG L.es) : LSt }
                                            (f (0 + i.toNat)).att (f (0 + i.toNat)).size).es.length
                                      0],
                                AB.dead,
                                AB.cells 32
                                  [SV.d (Value.int IntKind.i64 (f (0 + i.toNat)).kind),
                                    SV.d (Value.int IntKind.i64 (f (0 + i.toNat)).mi),
                                    SV.d (Value.int IntKind.i64 (f (0 + i.toNat)).size),
                                    SV.d (Value.int IntKind.i64 (f (0 + i.toNat)).att),
                                    SV.d (Value.int IntKind.u64 (f (0 + i.toNat)).seq)],
                                AB.row 36 4 (expP L (f (0 + i.toNat)).att (f (0 + i.toNat)).size).length
                                  (pkG (expP L (f (0 + i.toNat)).att (f (0 + i.toNat)).size)),
                                AB.row 36 4
                                  (expL
                                        { room := L.room, first := L.first, next := L.next, last := L.last,
                                          es := rowPk L.es.length (pkG L.es) : LSt }
                                        (f (0 + i.toNat)).att (f (0 + i.toNat)).size).es.length
                                  (pkG
                                    (expL
                                        { room := L.room, first := L.first, next := L.next, last := L.last,
                                          es := rowPk L.es.length (pkG L.es) : LSt }
                                        (f (0 + i.toNat)).att (f (0 + i.toNat)).size).es),
                                AB.row 36 4
                                  (expP
                                      { room := L.room, first := L.first, next := L.next, last := L.last,
                                        es := rowPk L.es.length (pkG L.es) : LSt }
                                      (f (0 + i.toNat)).att (f (0 + i.toNat)).size).length
                                  (pkG
                                    (expP
                                      { room := L.room, first := L.first, next := L.next, last := L.last,
                                        es := rowPk L.es.length (pkG L.es) : LSt }
                                      (f (0 + i.toNat)).att (f (0 + i.toNat)).size))]))))))))))))
      (T.ret
        (Exit.exit 0,
          [AV.e (EV.s (SV.d (Value.int IntKind.i64 room))), AV.e (EV.s (SV.sl 0 5 0 ns z)), AV.e (EV.s (SV.ptr 1 0)),
            AV.e (EV.s (SV.ptr 3 0)), AV.e (EV.s (SV.d (Value.int IntKind.i64 i)))],
          [AB.ro 5 ns (stF f),
            AB.cells 86
              [SV.d (Value.int IntKind.i64 L.room), SV.d (Value.int IntKind.u64 L.first),
                SV.d (Value.int IntKind.u64 L.next), SV.d (Value.int IntKind.i64 L.last), SV.mp 2],
            AB.pm L.es,
            AB.cells 44
              [SV.d (Value.int IntKind.i64 L.room), SV.d (Value.int IntKind.u64 L.first),
                SV.d (Value.int IntKind.u64 L.next), SV.d (Value.int IntKind.i64 L.last), SV.sl 4 4 0 L.es.length 0],
            AB.row 36 4 L.es.length (pkG L.es)])) := by kernel_rfl


def x3n (room : Int) (ns z : Nat) (i : Int) : List AV := [.d (.int .i64 room), .e (.s (.sl 0 5 0 ns z)), .c (.pointer none), .c (.pointer none), .d (.int .i64 i)]

noncomputable def t3nb (room : Int) (ns z : Nat) (f : Nat → Stp) (i : Int) (vs : Nat → Value) : T (Exit × List AV × Heap) := bodyT Try.prog e3 1 o3 1 (loopAt Try.prog 3 0) [0, 2, 7, 9, 11] 162 (x3n room ns z i) [.ro 5 ns (stF f)] vs

theorem t3nb_eq (room : Int) (ns z : Nat) (f : Nat → Stp) (i : Int) (vs : Nat → Value) : t3nb room ns z f i vs =
    T.ite (decide (i < (↑ns : Int)))
      (T.ret
        (Exit.exit 0,
          [AV.e (EV.s (SV.d (Value.int IntKind.i64 room))), AV.e (EV.s (SV.sl 0 5 0 ns z)),
            AV.e (EV.s (SV.c (Value.pointer none))), AV.e (EV.s (SV.c (Value.pointer none))),
            AV.e (EV.s (SV.d (Value.int IntKind.i64 i)))],
          [AB.ro 5 ns (stF f)]))
      (T.ret
        (Exit.exit 0,
          [AV.e (EV.s (SV.d (Value.int IntKind.i64 room))), AV.e (EV.s (SV.sl 0 5 0 ns z)),
            AV.e (EV.s (SV.c (Value.pointer none))), AV.e (EV.s (SV.c (Value.pointer none))),
            AV.e (EV.s (SV.d (Value.int IntKind.i64 i)))],
          [AB.ro 5 ns (stF f)])) := by kernel_rfl


noncomputable def t3k (room first : Int) (ns z : Nat) (f : Nat → Stp) (L : LSt) (i : Int) (vs : Nat → Value) : T (AV × Heap) := ((t3 room first ns z f).go [false, false, false]).kont (.exit 0) ⟨fat [0, 2, 7, 9, 11] vs (x3 room ns z i) 162 0, H3 ns f L⟩

theorem t3k_eq (room first : Int) (ns z : Nat) (f : Nat → Stp) (L : LSt) (i : Int) (vs : Nat → Value) : t3k room first ns z f L i vs =
    T.ret (AV.e (EV.s (SV.c (Value.bool true))), [AB.ro 5 ns (stF f)]) := by kernel_rfl


noncomputable def t3nk (room first : Int) (ns z : Nat) (f : Nat → Stp) (i : Int) (vs : Nat → Value) : T (AV × Heap) := ((t3 room first ns z f).go [false, true, true]).kont (.exit 0) ⟨fat [0, 2, 7, 9, 11] vs (x3n room ns z i) 162 0, [.ro 5 ns (stF f)]⟩

theorem t3nk_eq (room first : Int) (ns z : Nat) (f : Nat → Stp) (i : Int) (vs : Nat → Value) : t3nk room first ns z f i vs =
    T.ret (AV.e (EV.s (SV.c (Value.bool true))), [AB.ro 5 ns (stF f)]) := by kernel_rfl


theorem kl3 : codeB o3 (loopAt Try.prog 3 0) = true := by kernel_rfl

end Go.Proofs.Ythckkoledhjmeaa.Ev
