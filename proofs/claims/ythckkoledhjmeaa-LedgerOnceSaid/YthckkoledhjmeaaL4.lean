/-
  The statement LedgerOnce, told of the abstract evaluator's data: trees, and what they say.
-/
import Derived.Test.YthckkoledhjmeaaXN
import Derived.Test.YthckkoledhjmeaaL5

/-
  The abstract evaluator's trees: the statement LedgerOnce.
-/
namespace Go.Proofs.Ythckkoledhjmeaa.Ev
open Go

def e4 : List (Nat × Ent) := [(4, .body o4 0), (10, .summ s10), (12, .summ s12), (14, .summ s14), (17, .summ s17), (19, .summ s19), (22, .summ s22)]

noncomputable def t4 (room first : Int) (ns z : Nat) (f : Nat → Stp) : T (AV × Heap) := callT Try.prog (entL e4) 2 4 [.d (.int .i64 room), .d (.int .u64 first), .e (.s (.sl 0 5 0 ns z))] [.ro 5 ns (stF f)] fun r H' => .ret (r, H')

theorem t4_eq (room first : Int) (ns z : Nat) (f : Nat → Stp) : t4 room first ns z f =
    T.ite (newB room) (T.ret (AV.e (EV.s (SV.c (Value.bool true))), [AB.ro 5 ns (stF f)]))
      (T.ite (decide ((↑ns : Int) > 150)) (T.ret (AV.e (EV.s (SV.c (Value.bool true))), [AB.ro 5 ns (stF f)]))
        (T.code 1 (loopAt Try.prog 4 0).loop
          {
            fr :=
              [AV.e (EV.s (SV.d (Value.int IntKind.i64 room))), AV.e (EV.s (SV.d (Value.int IntKind.u64 first))),
                AV.e (EV.s (SV.sl 0 5 0 ns z)), AV.tup [], AV.tup [], AV.tup [], AV.e (EV.s (SV.c (Value.bool false))),
                AV.e (EV.s (SV.ptr 1 0)), AV.e (EV.s (SV.c (Value.int IntKind.i64 0))),
                AV.e (EV.s (SV.c (Value.slice none 0 0))), AV.e (EV.s (SV.c (Value.slice none 0 0))),
                AV.e (EV.s (SV.c (Value.int IntKind.i64 0))), AV.tup [], AV.tup [], AV.tup [], AV.tup [], AV.tup [],
                AV.tup [], AV.tup [], AV.tup [], AV.tup [EV.s (SV.ptr 1 0), EV.s (SV.c (Value.int IntKind.i64 0))],
                AV.e (EV.s (SV.d (Value.int IntKind.i64 room))), AV.e (EV.s (SV.d (Value.int IntKind.u64 first))),
                AV.tup [EV.s (SV.ptr 1 0), EV.s (SV.c (Value.int IntKind.i64 0))], AV.e (EV.s (SV.ptr 1 0)),
                AV.e (EV.s (SV.c (Value.int IntKind.i64 0))), AV.e (EV.s (SV.ptr 1 0)),
                AV.e (EV.s (SV.c (Value.bool false))), AV.e (EV.s (SV.c (Value.bool false))),
                AV.e (EV.s (SV.sl 0 5 0 ns z)), AV.e (EV.s (SV.d (Value.int IntKind.i64 (↑ns : Int)))),
                AV.e (EV.s (SV.c (Value.bool false))), AV.e (EV.s (SV.c (Value.bool false))),
                AV.e (EV.s (SV.c (Value.bool false))), AV.e (EV.s (SV.c (Value.int IntKind.i64 0))),
                AV.e (EV.s (SV.c (Value.bool false))), AV.e (EV.s (SV.c (Value.bool false))), AV.tup [], AV.tup [],
                AV.tup [], AV.tup [], AV.tup [], AV.tup [], AV.tup [], AV.tup [], AV.tup [], AV.tup [], AV.tup [],
                AV.tup [], AV.tup [], AV.tup [], AV.tup [], AV.tup [], AV.tup [], AV.tup [], AV.tup [], AV.tup [],
                AV.tup [], AV.tup [], AV.tup [], AV.tup [], AV.tup [], AV.tup [], AV.tup [], AV.tup [], AV.tup [],
                AV.tup [], AV.tup [], AV.tup [], AV.tup [], AV.tup [], AV.tup [], AV.tup [], AV.tup [], AV.tup [],
                AV.tup [], AV.tup [], AV.tup [], AV.tup [], AV.tup [], AV.tup [], AV.tup [], AV.tup [], AV.tup [],
                AV.tup [], AV.tup [], AV.tup [], AV.tup [], AV.tup [], AV.tup [], AV.tup [], AV.tup [], AV.tup [],
                AV.tup [], AV.tup [], AV.tup [], AV.tup [], AV.tup [], AV.tup [], AV.tup [], AV.tup [], AV.tup [],
                AV.tup [], AV.tup [], AV.tup [], AV.tup [], AV.tup [], AV.tup [], AV.tup [], AV.tup [], AV.tup [],
                AV.tup [], AV.tup [], AV.tup [], AV.tup [], AV.tup [], AV.tup [], AV.tup [], AV.tup [], AV.tup [],
                AV.tup [], AV.tup [], AV.tup [], AV.tup [], AV.tup [], AV.tup [], AV.tup [], AV.tup [], AV.tup [],
                AV.tup [], AV.tup [], AV.tup [], AV.tup [], AV.tup [], AV.tup [], AV.tup [], AV.tup [], AV.tup [],
                AV.tup [], AV.tup [], AV.tup [], AV.tup [], AV.tup [], AV.tup [], AV.tup [], AV.tup [], AV.tup [],
                AV.tup [], AV.tup [], AV.tup [], AV.tup [], AV.tup [], AV.tup [], AV.tup [], AV.tup [], AV.tup [],
                AV.tup [], AV.tup [], AV.tup [], AV.tup [], AV.tup [], AV.tup [], AV.tup []],
            H :=
              [AB.ro 5 ns (stF f),
                AB.cells 86
                  [SV.d (Value.int IntKind.i64 (newL room first).room),
                    SV.d (Value.int IntKind.u64 (newL room first).first),
                    SV.d (Value.int IntKind.u64 (newL room first).next), SV.d (Value.int IntKind.i64 0), SV.mp 2],
                AB.pm []] :
            St }
          (T.go [false, false] (t4 room first ns z f)).kont)) := by kernel_rfl


/-- The ledger; what was sent; what is gone. -/
def H4 (ns : Nat) (f : Nat → Stp) (L : LSt) (a : Nat) (ga : Nat → List Value) (b : Nat) (gb : Nat → List Value) : Heap := [.ro 5 ns (stF f), .cells 86 (lc L 2), .pm L.es, .row 36 4 a ga, .row 36 4 b gb]
def x4 (first : Int) (ns z : Nat) (a b : Nat) (i : Int) : List AV := [.d (.int .u64 first), .e (.s (.sl 0 5 0 ns z)), .e (.s (.ptr 1 0)), .e (.s (.sl 3 4 0 a 0)), .e (.s (.sl 4 4 0 b 0)), .d (.int .i64 i)]

noncomputable def t4b (first : Int) (ns z : Nat) (f : Nat → Stp) (L : LSt) (a : Nat) (ga : Nat → List Value) (b : Nat) (gb : Nat → List Value) (i : Int) (vs : Nat → Value) : T (Exit × List AV × Heap) := bodyT Try.prog e4 1 o4 1 (loopAt Try.prog 4 0) [1, 2, 7, 9, 10, 11] 163 (x4 first ns z a b i) (H4 ns f L a ga b gb) vs

theorem t4b_eq (first : Int) (ns z : Nat) (f : Nat → Stp) (L : LSt) (a : Nat) (ga : Nat → List Value) (b : Nat) (gb : Nat → List Value) (i : Int) (vs : Nat → Value) : t4b first ns z f L a ga b gb i vs =
    T.ite (decide (i < (↑ns : Int)))
      (T.need (0 ≤ i ∧ i < (↑ns : Int))
        (T.need (0 + i.toNat < ns)
          (T.ite ((f (0 + i.toNat)).kind == 0)
            (T.need L.Ok
              (T.ite (sendE L (f (0 + i.toNat)).mi (f (0 + i.toNat)).size (f (0 + i.toNat)).att == 0)
                (T.need
                  (0 + a ≤ a ∧
                    1 ≤
                        (chunksOf 4 1
                            [Value.int IntKind.u64
                                (sendN L (f (0 + i.toNat)).mi (f (0 + i.toNat)).size (f (0 + i.toNat)).att),
                              Value.int IntKind.i64 (f (0 + i.toNat)).mi, Value.int IntKind.i64 (f (0 + i.toNat)).size,
                              Value.int IntKind.i64 (f (0 + i.toNat)).att]).length ∧
                      a + 1 ≤ most)
                  (T.ret
                    (Exit.normal,
                      [AV.e (EV.s (SV.d (Value.int IntKind.u64 first))), AV.e (EV.s (SV.sl 0 5 0 ns z)),
                        AV.e (EV.s (SV.ptr 1 0)), AV.e (EV.s (SV.sl 7 4 0 (a + 1) 0)), AV.e (EV.s (SV.sl 4 4 0 b 0)),
                        AV.e (EV.s (SV.d (Value.int IntKind.i64 (IntKind.i64.wrap (i + 1)))))],
                      [AB.ro 5 ns (stF f),
                        AB.cells 86
                          [SV.d
                              (Value.int IntKind.i64
                                (sendL L (f (0 + i.toNat)).mi (f (0 + i.toNat)).size (f (0 + i.toNat)).att).room),
                            SV.d
                              (Value.int IntKind.u64
                                (sendL L (f (0 + i.toNat)).mi (f (0 + i.toNat)).size (f (0 + i.toNat)).att).first),
                            SV.d
                              (Value.int IntKind.u64
                                (sendL L (f (0 + i.toNat)).mi (f (0 + i.toNat)).size (f (0 + i.toNat)).att).next),
                            SV.d
                              (Value.int IntKind.i64
                                (sendL L (f (0 + i.toNat)).mi (f (0 + i.toNat)).size (f (0 + i.toNat)).att).last),
                            SV.mp 2],
                        AB.pm (sendL L (f (0 + i.toNat)).mi (f (0 + i.toNat)).size (f (0 + i.toNat)).att).es, AB.dead,
                        AB.row 36 4 b gb,
                        AB.cells 32
                          [SV.d (Value.int IntKind.i64 (f (0 + i.toNat)).kind),
                            SV.d (Value.int IntKind.i64 (f (0 + i.toNat)).mi),
                            SV.d (Value.int IntKind.i64 (f (0 + i.toNat)).size),
                            SV.d (Value.int IntKind.i64 (f (0 + i.toNat)).att),
                            SV.d (Value.int IntKind.u64 (f (0 + i.toNat)).seq)],
                        AB.lit 36 4
                          [[Value.int IntKind.u64
                                (sendN L (f (0 + i.toNat)).mi (f (0 + i.toNat)).size (f (0 + i.toNat)).att),
                              Value.int IntKind.i64 (f (0 + i.toNat)).mi, Value.int IntKind.i64 (f (0 + i.toNat)).size,
                              Value.int IntKind.i64 (f (0 + i.toNat)).att]],
                        AB.row 36 4 (a + 1)
                          (appendG ga 0 a
                            (fun j =>
                              (chunksOf 4 1
                                    [Value.int IntKind.u64
                                        (sendN L (f (0 + i.toNat)).mi (f (0 + i.toNat)).size (f (0 + i.toNat)).att),
                                      Value.int IntKind.i64 (f (0 + i.toNat)).mi,
                                      Value.int IntKind.i64 (f (0 + i.toNat)).size,
                                      Value.int IntKind.i64 (f (0 + i.toNat)).att]).getD
                                j [])
                            0)])))
                (T.ret
                  (Exit.normal,
                    [AV.e (EV.s (SV.d (Value.int IntKind.u64 first))), AV.e (EV.s (SV.sl 0 5 0 ns z)),
                      AV.e (EV.s (SV.ptr 1 0)), AV.e (EV.s (SV.sl 3 4 0 a 0)), AV.e (EV.s (SV.sl 4 4 0 b 0)),
                      AV.e (EV.s (SV.d (Value.int IntKind.i64 (IntKind.i64.wrap (i + 1)))))],
                    [AB.ro 5 ns (stF f),
                      AB.cells 86
                        [SV.d
                            (Value.int IntKind.i64
                              (sendL L (f (0 + i.toNat)).mi (f (0 + i.toNat)).size (f (0 + i.toNat)).att).room),
                          SV.d
                            (Value.int IntKind.u64
                              (sendL L (f (0 + i.toNat)).mi (f (0 + i.toNat)).size (f (0 + i.toNat)).att).first),
                          SV.d
                            (Value.int IntKind.u64
                              (sendL L (f (0 + i.toNat)).mi (f (0 + i.toNat)).size (f (0 + i.toNat)).att).next),
                          SV.d
                            (Value.int IntKind.i64
                              (sendL L (f (0 + i.toNat)).mi (f (0 + i.toNat)).size (f (0 + i.toNat)).att).last),
                          SV.mp 2],
                      AB.pm (sendL L (f (0 + i.toNat)).mi (f (0 + i.toNat)).size (f (0 + i.toNat)).att).es,
                      AB.row 36 4 a ga, AB.row 36 4 b gb,
                      AB.cells 32
                        [SV.d (Value.int IntKind.i64 (f (0 + i.toNat)).kind),
                          SV.d (Value.int IntKind.i64 (f (0 + i.toNat)).mi),
                          SV.d (Value.int IntKind.i64 (f (0 + i.toNat)).size),
                          SV.d (Value.int IntKind.i64 (f (0 + i.toNat)).att),
                          SV.d (Value.int IntKind.u64 (f (0 + i.toNat)).seq)]]))))
            (T.ite ((f (0 + i.toNat)).kind == 1)
              (T.ite (takeE L (f (0 + i.toNat)).seq == 0)
                (T.need
                  (0 + b ≤ b ∧
                    1 ≤
                        (chunksOf 4 1
                            [Value.int IntKind.u64 (takeP L (f (0 + i.toNat)).seq).seq,
                              Value.int IntKind.i64 (takeP L (f (0 + i.toNat)).seq).mi,
                              Value.int IntKind.i64 (takeP L (f (0 + i.toNat)).seq).size,
                              Value.int IntKind.i64 (takeP L (f (0 + i.toNat)).seq).sent]).length ∧
                      b + 1 ≤ most)
                  (T.ite (takeE L (f (0 + i.toNat)).seq == 0)
                    (T.ite
                      (if true = true then
                        !((takeP L (f (0 + i.toNat)).seq).seq == 0 &&
                            ((takeP L (f (0 + i.toNat)).seq).mi == 0 &&
                              ((takeP L (f (0 + i.toNat)).seq).size == 0 &&
                                ((takeP L (f (0 + i.toNat)).seq).sent == 0 && true))))
                      else
                        (takeP L (f (0 + i.toNat)).seq).seq == 0 &&
                          ((takeP L (f (0 + i.toNat)).seq).mi == 0 &&
                            ((takeP L (f (0 + i.toNat)).seq).size == 0 &&
                              ((takeP L (f (0 + i.toNat)).seq).sent == 0 && true))))
                      (T.ite (takeE L (f (0 + i.toNat)).seq == 0)
                        (T.ite ((takeP L (f (0 + i.toNat)).seq).seq != (f (0 + i.toNat)).seq)
                          (T.ret
                            (Exit.ret,
                              [AV.e (EV.s (SV.d (Value.int IntKind.u64 first))), AV.e (EV.s (SV.sl 0 5 0 ns z)),
                                AV.e (EV.s (SV.ptr 1 0)), AV.e (EV.s (SV.sl 3 4 0 a 0)),
                                AV.e (EV.s (SV.sl 8 4 0 (b + 1) 0)), AV.e (EV.s (SV.d (Value.int IntKind.i64 i)))],
                              [AB.ro 5 ns (stF f),
                                AB.cells 86
                                  [SV.d (Value.int IntKind.i64 (takeL L (f (0 + i.toNat)).seq).room),
                                    SV.d (Value.int IntKind.u64 (takeL L (f (0 + i.toNat)).seq).first),
                                    SV.d (Value.int IntKind.u64 (takeL L (f (0 + i.toNat)).seq).next),
                                    SV.d (Value.int IntKind.i64 (takeL L (f (0 + i.toNat)).seq).last), SV.mp 2],
                                AB.pm (takeL L (f (0 + i.toNat)).seq).es, AB.row 36 4 a ga, AB.dead,
                                AB.cells 32
                                  [SV.d (Value.int IntKind.i64 (f (0 + i.toNat)).kind),
                                    SV.d (Value.int IntKind.i64 (f (0 + i.toNat)).mi),
                                    SV.d (Value.int IntKind.i64 (f (0 + i.toNat)).size),
                                    SV.d (Value.int IntKind.i64 (f (0 + i.toNat)).att),
                                    SV.d (Value.int IntKind.u64 (f (0 + i.toNat)).seq)],
                                AB.cells 36
                                  [SV.d (Value.int IntKind.u64 (takeP L (f (0 + i.toNat)).seq).seq),
                                    SV.d (Value.int IntKind.i64 (takeP L (f (0 + i.toNat)).seq).mi),
                                    SV.d (Value.int IntKind.i64 (takeP L (f (0 + i.toNat)).seq).size),
                                    SV.d (Value.int IntKind.i64 (takeP L (f (0 + i.toNat)).seq).sent)],
                                AB.lit 36 4
                                  [[Value.int IntKind.u64 (takeP L (f (0 + i.toNat)).seq).seq,
                                      Value.int IntKind.i64 (takeP L (f (0 + i.toNat)).seq).mi,
                                      Value.int IntKind.i64 (takeP L (f (0 + i.toNat)).seq).size,
                                      Value.int IntKind.i64 (takeP L (f (0 + i.toNat)).seq).sent]],
                                AB.row 36 4 (b + 1)
                                  (appendG gb 0 b
                                    (fun j =>
                                      (chunksOf 4 1
                                            [Value.int IntKind.u64 (takeP L (f (0 + i.toNat)).seq).seq,
                                              Value.int IntKind.i64 (takeP L (f (0 + i.toNat)).seq).mi,
                                              Value.int IntKind.i64 (takeP L (f (0 + i.toNat)).seq).size,
                                              Value.int IntKind.i64 (takeP L (f (0 + i.toNat)).seq).sent]).getD
                                        j [])
                                    0)]))
                          (T.ret
                            (Exit.normal,
                              [AV.e (EV.s (SV.d (Value.int IntKind.u64 first))), AV.e (EV.s (SV.sl 0 5 0 ns z)),
                                AV.e (EV.s (SV.ptr 1 0)), AV.e (EV.s (SV.sl 3 4 0 a 0)),
                                AV.e (EV.s (SV.sl 8 4 0 (b + 1) 0)),
                                AV.e (EV.s (SV.d (Value.int IntKind.i64 (IntKind.i64.wrap (i + 1)))))],
                              [AB.ro 5 ns (stF f),
                                AB.cells 86
                                  [SV.d (Value.int IntKind.i64 (takeL L (f (0 + i.toNat)).seq).room),
                                    SV.d (Value.int IntKind.u64 (takeL L (f (0 + i.toNat)).seq).first),
                                    SV.d (Value.int IntKind.u64 (takeL L (f (0 + i.toNat)).seq).next),
                                    SV.d (Value.int IntKind.i64 (takeL L (f (0 + i.toNat)).seq).last), SV.mp 2],
                                AB.pm (takeL L (f (0 + i.toNat)).seq).es, AB.row 36 4 a ga, AB.dead,
                                AB.cells 32
                                  [SV.d (Value.int IntKind.i64 (f (0 + i.toNat)).kind),
                                    SV.d (Value.int IntKind.i64 (f (0 + i.toNat)).mi),
                                    SV.d (Value.int IntKind.i64 (f (0 + i.toNat)).size),
                                    SV.d (Value.int IntKind.i64 (f (0 + i.toNat)).att),
                                    SV.d (Value.int IntKind.u64 (f (0 + i.toNat)).seq)],
                                AB.cells 36
                                  [SV.d (Value.int IntKind.u64 (takeP L (f (0 + i.toNat)).seq).seq),
                                    SV.d (Value.int IntKind.i64 (takeP L (f (0 + i.toNat)).seq).mi),
                                    SV.d (Value.int IntKind.i64 (takeP L (f (0 + i.toNat)).seq).size),
                                    SV.d (Value.int IntKind.i64 (takeP L (f (0 + i.toNat)).seq).sent)],
                                AB.lit 36 4
                                  [[Value.int IntKind.u64 (takeP L (f (0 + i.toNat)).seq).seq,
                                      Value.int IntKind.i64 (takeP L (f (0 + i.toNat)).seq).mi,
                                      Value.int IntKind.i64 (takeP L (f (0 + i.toNat)).seq).size,
                                      Value.int IntKind.i64 (takeP L (f (0 + i.toNat)).seq).sent]],
                                AB.row 36 4 (b + 1)
                                  (appendG gb 0 b
                                    (fun j =>
                                      (chunksOf 4 1
                                            [Value.int IntKind.u64 (takeP L (f (0 + i.toNat)).seq).seq,
                                              Value.int IntKind.i64 (takeP L (f (0 + i.toNat)).seq).mi,
                                              Value.int IntKind.i64 (takeP L (f (0 + i.toNat)).seq).size,
                                              Value.int IntKind.i64 (takeP L (f (0 + i.toNat)).seq).sent]).getD
                                        j [])
                                    0)])))
                        (T.ret
                          (Exit.normal,
                            [AV.e (EV.s (SV.d (Value.int IntKind.u64 first))), AV.e (EV.s (SV.sl 0 5 0 ns z)),
                              AV.e (EV.s (SV.ptr 1 0)), AV.e (EV.s (SV.sl 3 4 0 a 0)), AV.e (EV.s (SV.sl 8 4 0 (b + 1) 0)),
                              AV.e (EV.s (SV.d (Value.int IntKind.i64 (IntKind.i64.wrap (i + 1)))))],
                            [AB.ro 5 ns (stF f),
                              AB.cells 86
                                [SV.d (Value.int IntKind.i64 (takeL L (f (0 + i.toNat)).seq).room),
                                  SV.d (Value.int IntKind.u64 (takeL L (f (0 + i.toNat)).seq).first),
                                  SV.d (Value.int IntKind.u64 (takeL L (f (0 + i.toNat)).seq).next),
                                  SV.d (Value.int IntKind.i64 (takeL L (f (0 + i.toNat)).seq).last), SV.mp 2],
                              AB.pm (takeL L (f (0 + i.toNat)).seq).es, AB.row 36 4 a ga, AB.dead,
                              AB.cells 32
                                [SV.d (Value.int IntKind.i64 (f (0 + i.toNat)).kind),
                                  SV.d (Value.int IntKind.i64 (f (0 + i.toNat)).mi),
                                  SV.d (Value.int IntKind.i64 (f (0 + i.toNat)).size),
                                  SV.d (Value.int IntKind.i64 (f (0 + i.toNat)).att),
                                  SV.d (Value.int IntKind.u64 (f (0 + i.toNat)).seq)],
                              AB.cells 36
                                [SV.d (Value.int IntKind.u64 (takeP L (f (0 + i.toNat)).seq).seq),
                                  SV.d (Value.int IntKind.i64 (takeP L (f (0 + i.toNat)).seq).mi),
                                  SV.d (Value.int IntKind.i64 (takeP L (f (0 + i.toNat)).seq).size),
                                  SV.d (Value.int IntKind.i64 (takeP L (f (0 + i.toNat)).seq).sent)],
                              AB.lit 36 4
                                [[Value.int IntKind.u64 (takeP L (f (0 + i.toNat)).seq).seq,
                                    Value.int IntKind.i64 (takeP L (f (0 + i.toNat)).seq).mi,
                                    Value.int IntKind.i64 (takeP L (f (0 + i.toNat)).seq).size,
                                    Value.int IntKind.i64 (takeP L (f (0 + i.toNat)).seq).sent]],
                              AB.row 36 4 (b + 1)
                                (appendG gb 0 b
                                  (fun j =>
                                    (chunksOf 4 1
                                          [Value.int IntKind.u64 (takeP L (f (0 + i.toNat)).seq).seq,
                                            Value.int IntKind.i64 (takeP L (f (0 + i.toNat)).seq).mi,
                                            Value.int IntKind.i64 (takeP L (f (0 + i.toNat)).seq).size,
                                            Value.int IntKind.i64 (takeP L (f (0 + i.toNat)).seq).sent]).getD
                                      j [])
                                  0)])))
                      (T.ret
                        (Exit.ret,
                          [AV.e (EV.s (SV.d (Value.int IntKind.u64 first))), AV.e (EV.s (SV.sl 0 5 0 ns z)),
                            AV.e (EV.s (SV.ptr 1 0)), AV.e (EV.s (SV.sl 3 4 0 a 0)), AV.e (EV.s (SV.sl 8 4 0 (b + 1) 0)),
                            AV.e (EV.s (SV.d (Value.int IntKind.i64 i)))],
                          [AB.ro 5 ns (stF f),
                            AB.cells 86
                              [SV.d (Value.int IntKind.i64 (takeL L (f (0 + i.toNat)).seq).room),
                                SV.d (Value.int IntKind.u64 (takeL L (f (0 + i.toNat)).seq).first),
                                SV.d (Value.int IntKind.u64 (takeL L (f (0 + i.toNat)).seq).next),
                                SV.d (Value.int IntKind.i64 (takeL L (f (0 + i.toNat)).seq).last), SV.mp 2],
                            AB.pm (takeL L (f (0 + i.toNat)).seq).es, AB.row 36 4 a ga, AB.dead,
                            AB.cells 32
                              [SV.d (Value.int IntKind.i64 (f (0 + i.toNat)).kind),
                                SV.d (Value.int IntKind.i64 (f (0 + i.toNat)).mi),
                                SV.d (Value.int IntKind.i64 (f (0 + i.toNat)).size),
                                SV.d (Value.int IntKind.i64 (f (0 + i.toNat)).att),
                                SV.d (Value.int IntKind.u64 (f (0 + i.toNat)).seq)],
                            AB.cells 36
                              [SV.d (Value.int IntKind.u64 (takeP L (f (0 + i.toNat)).seq).seq),
                                SV.d (Value.int IntKind.i64 (takeP L (f (0 + i.toNat)).seq).mi),
                                SV.d (Value.int IntKind.i64 (takeP L (f (0 + i.toNat)).seq).size),
                                SV.d (Value.int IntKind.i64 (takeP L (f (0 + i.toNat)).seq).sent)],
                            AB.lit 36 4
                              [[Value.int IntKind.u64 (takeP L (f (0 + i.toNat)).seq).seq,
                                  Value.int IntKind.i64 (takeP L (f (0 + i.toNat)).seq).mi,
                                  Value.int IntKind.i64 (takeP L (f (0 + i.toNat)).seq).size,
                                  Value.int IntKind.i64 (takeP L (f (0 + i.toNat)).seq).sent]],
                            AB.row 36 4 (b + 1)
                              (appendG gb 0 b
                                (fun j =>
                                  (chunksOf 4 1
                                        [Value.int IntKind.u64 (takeP L (f (0 + i.toNat)).seq).seq,
                                          Value.int IntKind.i64 (takeP L (f (0 + i.toNat)).seq).mi,
                                          Value.int IntKind.i64 (takeP L (f (0 + i.toNat)).seq).size,
                                          Value.int IntKind.i64 (takeP L (f (0 + i.toNat)).seq).sent]).getD
                                    j [])
                                0)])))
                    (T.ite
                      (if true = true then
                        !((takeP L (f (0 + i.toNat)).seq).seq == 0 &&
                            ((takeP L (f (0 + i.toNat)).seq).mi == 0 &&
                              ((takeP L (f (0 + i.toNat)).seq).size == 0 &&
                                ((takeP L (f (0 + i.toNat)).seq).sent == 0 && true))))
                      else
                        (takeP L (f (0 + i.toNat)).seq).seq == 0 &&
                          ((takeP L (f (0 + i.toNat)).seq).mi == 0 &&
                            ((takeP L (f (0 + i.toNat)).seq).size == 0 &&
                              ((takeP L (f (0 + i.toNat)).seq).sent == 0 && true))))
                      (T.ret
                        (Exit.ret,
                          [AV.e (EV.s (SV.d (Value.int IntKind.u64 first))), AV.e (EV.s (SV.sl 0 5 0 ns z)),
                            AV.e (EV.s (SV.ptr 1 0)), AV.e (EV.s (SV.sl 3 4 0 a 0)), AV.e (EV.s (SV.sl 8 4 0 (b + 1) 0)),
                            AV.e (EV.s (SV.d (Value.int IntKind.i64 i)))],
                          [AB.ro 5 ns (stF f),
                            AB.cells 86
                              [SV.d (Value.int IntKind.i64 (takeL L (f (0 + i.toNat)).seq).room),
                                SV.d (Value.int IntKind.u64 (takeL L (f (0 + i.toNat)).seq).first),
                                SV.d (Value.int IntKind.u64 (takeL L (f (0 + i.toNat)).seq).next),
                                SV.d (Value.int IntKind.i64 (takeL L (f (0 + i.toNat)).seq).last), SV.mp 2],
                            AB.pm (takeL L (f (0 + i.toNat)).seq).es, AB.row 36 4 a ga, AB.dead,
                            AB.cells 32
                              [SV.d (Value.int IntKind.i64 (f (0 + i.toNat)).kind),
                                SV.d (Value.int IntKind.i64 (f (0 + i.toNat)).mi),
                                SV.d (Value.int IntKind.i64 (f (0 + i.toNat)).size),
                                SV.d (Value.int IntKind.i64 (f (0 + i.toNat)).att),
                                SV.d (Value.int IntKind.u64 (f (0 + i.toNat)).seq)],
                            AB.cells 36
                              [SV.d (Value.int IntKind.u64 (takeP L (f (0 + i.toNat)).seq).seq),
                                SV.d (Value.int IntKind.i64 (takeP L (f (0 + i.toNat)).seq).mi),
                                SV.d (Value.int IntKind.i64 (takeP L (f (0 + i.toNat)).seq).size),
                                SV.d (Value.int IntKind.i64 (takeP L (f (0 + i.toNat)).seq).sent)],
                            AB.lit 36 4
                              [[Value.int IntKind.u64 (takeP L (f (0 + i.toNat)).seq).seq,
                                  Value.int IntKind.i64 (takeP L (f (0 + i.toNat)).seq).mi,
                                  Value.int IntKind.i64 (takeP L (f (0 + i.toNat)).seq).size,
                                  Value.int IntKind.i64 (takeP L (f (0 + i.toNat)).seq).sent]],
                            AB.row 36 4 (b + 1)
                              (appendG gb 0 b
                                (fun j =>
                                  (chunksOf 4 1
                                        [Value.int IntKind.u64 (takeP L (f (0 + i.toNat)).seq).seq,
                                          Value.int IntKind.i64 (takeP L (f (0 + i.toNat)).seq).mi,
                                          Value.int IntKind.i64 (takeP L (f (0 + i.toNat)).seq).size,
                                          Value.int IntKind.i64 (takeP L (f (0 + i.toNat)).seq).sent]).getD
                                    j [])
                                0)]))
                      (T.ite (takeE L (f (0 + i.toNat)).seq == 0)
                        (T.ite ((takeP L (f (0 + i.toNat)).seq).seq != (f (0 + i.toNat)).seq)
                          (T.ret
                            (Exit.ret,
                              [AV.e (EV.s (SV.d (Value.int IntKind.u64 first))), AV.e (EV.s (SV.sl 0 5 0 ns z)),
                                AV.e (EV.s (SV.ptr 1 0)), AV.e (EV.s (SV.sl 3 4 0 a 0)),
                                AV.e (EV.s (SV.sl 8 4 0 (b + 1) 0)), AV.e (EV.s (SV.d (Value.int IntKind.i64 i)))],
                              [AB.ro 5 ns (stF f),
                                AB.cells 86
                                  [SV.d (Value.int IntKind.i64 (takeL L (f (0 + i.toNat)).seq).room),
                                    SV.d (Value.int IntKind.u64 (takeL L (f (0 + i.toNat)).seq).first),
                                    SV.d (Value.int IntKind.u64 (takeL L (f (0 + i.toNat)).seq).next),
                                    SV.d (Value.int IntKind.i64 (takeL L (f (0 + i.toNat)).seq).last), SV.mp 2],
                                AB.pm (takeL L (f (0 + i.toNat)).seq).es, AB.row 36 4 a ga, AB.dead,
                                AB.cells 32
                                  [SV.d (Value.int IntKind.i64 (f (0 + i.toNat)).kind),
                                    SV.d (Value.int IntKind.i64 (f (0 + i.toNat)).mi),
                                    SV.d (Value.int IntKind.i64 (f (0 + i.toNat)).size),
                                    SV.d (Value.int IntKind.i64 (f (0 + i.toNat)).att),
                                    SV.d (Value.int IntKind.u64 (f (0 + i.toNat)).seq)],
                                AB.cells 36
                                  [SV.d (Value.int IntKind.u64 (takeP L (f (0 + i.toNat)).seq).seq),
                                    SV.d (Value.int IntKind.i64 (takeP L (f (0 + i.toNat)).seq).mi),
                                    SV.d (Value.int IntKind.i64 (takeP L (f (0 + i.toNat)).seq).size),
                                    SV.d (Value.int IntKind.i64 (takeP L (f (0 + i.toNat)).seq).sent)],
                                AB.lit 36 4
                                  [[Value.int IntKind.u64 (takeP L (f (0 + i.toNat)).seq).seq,
                                      Value.int IntKind.i64 (takeP L (f (0 + i.toNat)).seq).mi,
                                      Value.int IntKind.i64 (takeP L (f (0 + i.toNat)).seq).size,
                                      Value.int IntKind.i64 (takeP L (f (0 + i.toNat)).seq).sent]],
                                AB.row 36 4 (b + 1)
                                  (appendG gb 0 b
                                    (fun j =>
                                      (chunksOf 4 1
                                            [Value.int IntKind.u64 (takeP L (f (0 + i.toNat)).seq).seq,
                                              Value.int IntKind.i64 (takeP L (f (0 + i.toNat)).seq).mi,
                                              Value.int IntKind.i64 (takeP L (f (0 + i.toNat)).seq).size,
                                              Value.int IntKind.i64 (takeP L (f (0 + i.toNat)).seq).sent]).getD
                                        j [])
                                    0)]))
                          (T.ret
                            (Exit.normal,
                              [AV.e (EV.s (SV.d (Value.int IntKind.u64 first))), AV.e (EV.s (SV.sl 0 5 0 ns z)),
                                AV.e (EV.s (SV.ptr 1 0)), AV.e (EV.s (SV.sl 3 4 0 a 0)),
                                AV.e (EV.s (SV.sl 8 4 0 (b + 1) 0)),
                                AV.e (EV.s (SV.d (Value.int IntKind.i64 (IntKind.i64.wrap (i + 1)))))],
                              [AB.ro 5 ns (stF f),
                                AB.cells 86
                                  [SV.d (Value.int IntKind.i64 (takeL L (f (0 + i.toNat)).seq).room),
                                    SV.d (Value.int IntKind.u64 (takeL L (f (0 + i.toNat)).seq).first),
                                    SV.d (Value.int IntKind.u64 (takeL L (f (0 + i.toNat)).seq).next),
                                    SV.d (Value.int IntKind.i64 (takeL L (f (0 + i.toNat)).seq).last), SV.mp 2],
                                AB.pm (takeL L (f (0 + i.toNat)).seq).es, AB.row 36 4 a ga, AB.dead,
                                AB.cells 32
                                  [SV.d (Value.int IntKind.i64 (f (0 + i.toNat)).kind),
                                    SV.d (Value.int IntKind.i64 (f (0 + i.toNat)).mi),
                                    SV.d (Value.int IntKind.i64 (f (0 + i.toNat)).size),
                                    SV.d (Value.int IntKind.i64 (f (0 + i.toNat)).att),
                                    SV.d (Value.int IntKind.u64 (f (0 + i.toNat)).seq)],
                                AB.cells 36
                                  [SV.d (Value.int IntKind.u64 (takeP L (f (0 + i.toNat)).seq).seq),
                                    SV.d (Value.int IntKind.i64 (takeP L (f (0 + i.toNat)).seq).mi),
                                    SV.d (Value.int IntKind.i64 (takeP L (f (0 + i.toNat)).seq).size),
                                    SV.d (Value.int IntKind.i64 (takeP L (f (0 + i.toNat)).seq).sent)],
                                AB.lit 36 4
                                  [[Value.int IntKind.u64 (takeP L (f (0 + i.toNat)).seq).seq,
                                      Value.int IntKind.i64 (takeP L (f (0 + i.toNat)).seq).mi,
                                      Value.int IntKind.i64 (takeP L (f (0 + i.toNat)).seq).size,
                                      Value.int IntKind.i64 (takeP L (f (0 + i.toNat)).seq).sent]],
                                AB.row 36 4 (b + 1)
                                  (appendG gb 0 b
                                    (fun j =>
                                      (chunksOf 4 1
                                            [Value.int IntKind.u64 (takeP L (f (0 + i.toNat)).seq).seq,
                                              Value.int IntKind.i64 (takeP L (f (0 + i.toNat)).seq).mi,
                                              Value.int IntKind.i64 (takeP L (f (0 + i.toNat)).seq).size,
                                              Value.int IntKind.i64 (takeP L (f (0 + i.toNat)).seq).sent]).getD
                                        j [])
                                    0)])))
                        (T.ret
                          (Exit.normal,
                            [AV.e (EV.s (SV.d (Value.int IntKind.u64 first))), AV.e (EV.s (SV.sl 0 5 0 ns z)),
                              AV.e (EV.s (SV.ptr 1 0)), AV.e (EV.s (SV.sl 3 4 0 a 0)), AV.e (EV.s (SV.sl 8 4 0 (b + 1) 0)),
                              AV.e (EV.s (SV.d (Value.int IntKind.i64 (IntKind.i64.wrap (i + 1)))))],
                            [AB.ro 5 ns (stF f),
                              AB.cells 86
                                [SV.d (Value.int IntKind.i64 (takeL L (f (0 + i.toNat)).seq).room),
                                  SV.d (Value.int IntKind.u64 (takeL L (f (0 + i.toNat)).seq).first),
                                  SV.d (Value.int IntKind.u64 (takeL L (f (0 + i.toNat)).seq).next),
                                  SV.d (Value.int IntKind.i64 (takeL L (f (0 + i.toNat)).seq).last), SV.mp 2],
                              AB.pm (takeL L (f (0 + i.toNat)).seq).es, AB.row 36 4 a ga, AB.dead,
                              AB.cells 32
                                [SV.d (Value.int IntKind.i64 (f (0 + i.toNat)).kind),
                                  SV.d (Value.int IntKind.i64 (f (0 + i.toNat)).mi),
                                  SV.d (Value.int IntKind.i64 (f (0 + i.toNat)).size),
                                  SV.d (Value.int IntKind.i64 (f (0 + i.toNat)).att),
                                  SV.d (Value.int IntKind.u64 (f (0 + i.toNat)).seq)],
                              AB.cells 36
                                [SV.d (Value.int IntKind.u64 (takeP L (f (0 + i.toNat)).seq).seq),
                                  SV.d (Value.int IntKind.i64 (takeP L (f (0 + i.toNat)).seq).mi),
                                  SV.d (Value.int IntKind.i64 (takeP L (f (0 + i.toNat)).seq).size),
                                  SV.d (Value.int IntKind.i64 (takeP L (f (0 + i.toNat)).seq).sent)],
                              AB.lit 36 4
                                [[Value.int IntKind.u64 (takeP L (f (0 + i.toNat)).seq).seq,
                                    Value.int IntKind.i64 (takeP L (f (0 + i.toNat)).seq).mi,
                                    Value.int IntKind.i64 (takeP L (f (0 + i.toNat)).seq).size,
                                    Value.int IntKind.i64 (takeP L (f (0 + i.toNat)).seq).sent]],
                              AB.row 36 4 (b + 1)
                                (appendG gb 0 b
                                  (fun j =>
                                    (chunksOf 4 1
                                          [Value.int IntKind.u64 (takeP L (f (0 + i.toNat)).seq).seq,
                                            Value.int IntKind.i64 (takeP L (f (0 + i.toNat)).seq).mi,
                                            Value.int IntKind.i64 (takeP L (f (0 + i.toNat)).seq).size,
                                            Value.int IntKind.i64 (takeP L (f (0 + i.toNat)).seq).sent]).getD
                                      j [])
                                  0)]))))))
                (T.ite (takeE L (f (0 + i.toNat)).seq == 0)
                  (T.ite
                    (if true = true then
                      !((takeP L (f (0 + i.toNat)).seq).seq == 0 &&
                          ((takeP L (f (0 + i.toNat)).seq).mi == 0 &&
                            ((takeP L (f (0 + i.toNat)).seq).size == 0 &&
                              ((takeP L (f (0 + i.toNat)).seq).sent == 0 && true))))
                    else
                      (takeP L (f (0 + i.toNat)).seq).seq == 0 &&
                        ((takeP L (f (0 + i.toNat)).seq).mi == 0 &&
                          ((takeP L (f (0 + i.toNat)).seq).size == 0 &&
                            ((takeP L (f (0 + i.toNat)).seq).sent == 0 && true))))
                    (T.ite (takeE L (f (0 + i.toNat)).seq == 0)
                      (T.ite ((takeP L (f (0 + i.toNat)).seq).seq != (f (0 + i.toNat)).seq)
                        (T.ret
                          (Exit.ret,
                            [AV.e (EV.s (SV.d (Value.int IntKind.u64 first))), AV.e (EV.s (SV.sl 0 5 0 ns z)),
                              AV.e (EV.s (SV.ptr 1 0)), AV.e (EV.s (SV.sl 3 4 0 a 0)), AV.e (EV.s (SV.sl 4 4 0 b 0)),
                              AV.e (EV.s (SV.d (Value.int IntKind.i64 i)))],
                            [AB.ro 5 ns (stF f),
                              AB.cells 86
                                [SV.d (Value.int IntKind.i64 (takeL L (f (0 + i.toNat)).seq).room),
                                  SV.d (Value.int IntKind.u64 (takeL L (f (0 + i.toNat)).seq).first),
                                  SV.d (Value.int IntKind.u64 (takeL L (f (0 + i.toNat)).seq).next),
                                  SV.d (Value.int IntKind.i64 (takeL L (f (0 + i.toNat)).seq).last), SV.mp 2],
                              AB.pm (takeL L (f (0 + i.toNat)).seq).es, AB.row 36 4 a ga, AB.row 36 4 b gb,
                              AB.cells 32
                                [SV.d (Value.int IntKind.i64 (f (0 + i.toNat)).kind),
                                  SV.d (Value.int IntKind.i64 (f (0 + i.toNat)).mi),
                                  SV.d (Value.int IntKind.i64 (f (0 + i.toNat)).size),
                                  SV.d (Value.int IntKind.i64 (f (0 + i.toNat)).att),
                                  SV.d (Value.int IntKind.u64 (f (0 + i.toNat)).seq)],
                              AB.cells 36
                                [SV.d (Value.int IntKind.u64 (takeP L (f (0 + i.toNat)).seq).seq),
                                  SV.d (Value.int IntKind.i64 (takeP L (f (0 + i.toNat)).seq).mi),
                                  SV.d (Value.int IntKind.i64 (takeP L (f (0 + i.toNat)).seq).size),
                                  SV.d (Value.int IntKind.i64 (takeP L (f (0 + i.toNat)).seq).sent)]]))
                        (T.ret
                          (Exit.normal,
                            [AV.e (EV.s (SV.d (Value.int IntKind.u64 first))), AV.e (EV.s (SV.sl 0 5 0 ns z)),
                              AV.e (EV.s (SV.ptr 1 0)), AV.e (EV.s (SV.sl 3 4 0 a 0)), AV.e (EV.s (SV.sl 4 4 0 b 0)),
                              AV.e (EV.s (SV.d (Value.int IntKind.i64 (IntKind.i64.wrap (i + 1)))))],
                            [AB.ro 5 ns (stF f),
                              AB.cells 86
                                [SV.d (Value.int IntKind.i64 (takeL L (f (0 + i.toNat)).seq).room),
                                  SV.d (Value.int IntKind.u64 (takeL L (f (0 + i.toNat)).seq).first),
                                  SV.d (Value.int IntKind.u64 (takeL L (f (0 + i.toNat)).seq).next),
                                  SV.d (Value.int IntKind.i64 (takeL L (f (0 + i.toNat)).seq).last), SV.mp 2],
                              AB.pm (takeL L (f (0 + i.toNat)).seq).es, AB.row 36 4 a ga, AB.row 36 4 b gb,
                              AB.cells 32
                                [SV.d (Value.int IntKind.i64 (f (0 + i.toNat)).kind),
                                  SV.d (Value.int IntKind.i64 (f (0 + i.toNat)).mi),
                                  SV.d (Value.int IntKind.i64 (f (0 + i.toNat)).size),
                                  SV.d (Value.int IntKind.i64 (f (0 + i.toNat)).att),
                                  SV.d (Value.int IntKind.u64 (f (0 + i.toNat)).seq)],
                              AB.cells 36
                                [SV.d (Value.int IntKind.u64 (takeP L (f (0 + i.toNat)).seq).seq),
                                  SV.d (Value.int IntKind.i64 (takeP L (f (0 + i.toNat)).seq).mi),
                                  SV.d (Value.int IntKind.i64 (takeP L (f (0 + i.toNat)).seq).size),
                                  SV.d (Value.int IntKind.i64 (takeP L (f (0 + i.toNat)).seq).sent)]])))
                      (T.ret
                        (Exit.normal,
                          [AV.e (EV.s (SV.d (Value.int IntKind.u64 first))), AV.e (EV.s (SV.sl 0 5 0 ns z)),
                            AV.e (EV.s (SV.ptr 1 0)), AV.e (EV.s (SV.sl 3 4 0 a 0)), AV.e (EV.s (SV.sl 4 4 0 b 0)),
                            AV.e (EV.s (SV.d (Value.int IntKind.i64 (IntKind.i64.wrap (i + 1)))))],
                          [AB.ro 5 ns (stF f),
                            AB.cells 86
                              [SV.d (Value.int IntKind.i64 (takeL L (f (0 + i.toNat)).seq).room),
                                SV.d (Value.int IntKind.u64 (takeL L (f (0 + i.toNat)).seq).first),
                                SV.d (Value.int IntKind.u64 (takeL L (f (0 + i.toNat)).seq).next),
                                SV.d (Value.int IntKind.i64 (takeL L (f (0 + i.toNat)).seq).last), SV.mp 2],
                            AB.pm (takeL L (f (0 + i.toNat)).seq).es, AB.row 36 4 a ga, AB.row 36 4 b gb,
                            AB.cells 32
                              [SV.d (Value.int IntKind.i64 (f (0 + i.toNat)).kind),
                                SV.d (Value.int IntKind.i64 (f (0 + i.toNat)).mi),
                                SV.d (Value.int IntKind.i64 (f (0 + i.toNat)).size),
                                SV.d (Value.int IntKind.i64 (f (0 + i.toNat)).att),
                                SV.d (Value.int IntKind.u64 (f (0 + i.toNat)).seq)],
                            AB.cells 36
                              [SV.d (Value.int IntKind.u64 (takeP L (f (0 + i.toNat)).seq).seq),
                                SV.d (Value.int IntKind.i64 (takeP L (f (0 + i.toNat)).seq).mi),
                                SV.d (Value.int IntKind.i64 (takeP L (f (0 + i.toNat)).seq).size),
                                SV.d (Value.int IntKind.i64 (takeP L (f (0 + i.toNat)).seq).sent)]])))
                    (T.ret
                      (Exit.ret,
                        [AV.e (EV.s (SV.d (Value.int IntKind.u64 first))), AV.e (EV.s (SV.sl 0 5 0 ns z)),
                          AV.e (EV.s (SV.ptr 1 0)), AV.e (EV.s (SV.sl 3 4 0 a 0)), AV.e (EV.s (SV.sl 4 4 0 b 0)),
                          AV.e (EV.s (SV.d (Value.int IntKind.i64 i)))],
                        [AB.ro 5 ns (stF f),
                          AB.cells 86
                            [SV.d (Value.int IntKind.i64 (takeL L (f (0 + i.toNat)).seq).room),
                              SV.d (Value.int IntKind.u64 (takeL L (f (0 + i.toNat)).seq).first),
                              SV.d (Value.int IntKind.u64 (takeL L (f (0 + i.toNat)).seq).next),
                              SV.d (Value.int IntKind.i64 (takeL L (f (0 + i.toNat)).seq).last), SV.mp 2],
                          AB.pm (takeL L (f (0 + i.toNat)).seq).es, AB.row 36 4 a ga, AB.row 36 4 b gb,
                          AB.cells 32
                            [SV.d (Value.int IntKind.i64 (f (0 + i.toNat)).kind),
                              SV.d (Value.int IntKind.i64 (f (0 + i.toNat)).mi),
                              SV.d (Value.int IntKind.i64 (f (0 + i.toNat)).size),
                              SV.d (Value.int IntKind.i64 (f (0 + i.toNat)).att),
                              SV.d (Value.int IntKind.u64 (f (0 + i.toNat)).seq)],
                          AB.cells 36
                            [SV.d (Value.int IntKind.u64 (takeP L (f (0 + i.toNat)).seq).seq),
                              SV.d (Value.int IntKind.i64 (takeP L (f (0 + i.toNat)).seq).mi),
                              SV.d (Value.int IntKind.i64 (takeP L (f (0 + i.toNat)).seq).size),
                              SV.d (Value.int IntKind.i64 (takeP L (f (0 + i.toNat)).seq).sent)]])))
                  (T.ite
                    (if true = true then
                      !((takeP L (f (0 + i.toNat)).seq).seq == 0 &&
                          ((takeP L (f (0 + i.toNat)).seq).mi == 0 &&
                            ((takeP L (f (0 + i.toNat)).seq).size == 0 &&
                              ((takeP L (f (0 + i.toNat)).seq).sent == 0 && true))))
                    else
                      (takeP L (f (0 + i.toNat)).seq).seq == 0 &&
                        ((takeP L (f (0 + i.toNat)).seq).mi == 0 &&
                          ((takeP L (f (0 + i.toNat)).seq).size == 0 &&
                            ((takeP L (f (0 + i.toNat)).seq).sent == 0 && true))))
                    (T.ret
                      (Exit.ret,
                        [AV.e (EV.s (SV.d (Value.int IntKind.u64 first))), AV.e (EV.s (SV.sl 0 5 0 ns z)),
                          AV.e (EV.s (SV.ptr 1 0)), AV.e (EV.s (SV.sl 3 4 0 a 0)), AV.e (EV.s (SV.sl 4 4 0 b 0)),
                          AV.e (EV.s (SV.d (Value.int IntKind.i64 i)))],
                        [AB.ro 5 ns (stF f),
                          AB.cells 86
                            [SV.d (Value.int IntKind.i64 (takeL L (f (0 + i.toNat)).seq).room),
                              SV.d (Value.int IntKind.u64 (takeL L (f (0 + i.toNat)).seq).first),
                              SV.d (Value.int IntKind.u64 (takeL L (f (0 + i.toNat)).seq).next),
                              SV.d (Value.int IntKind.i64 (takeL L (f (0 + i.toNat)).seq).last), SV.mp 2],
                          AB.pm (takeL L (f (0 + i.toNat)).seq).es, AB.row 36 4 a ga, AB.row 36 4 b gb,
                          AB.cells 32
                            [SV.d (Value.int IntKind.i64 (f (0 + i.toNat)).kind),
                              SV.d (Value.int IntKind.i64 (f (0 + i.toNat)).mi),
                              SV.d (Value.int IntKind.i64 (f (0 + i.toNat)).size),
                              SV.d (Value.int IntKind.i64 (f (0 + i.toNat)).att),
                              SV.d (Value.int IntKind.u64 (f (0 + i.toNat)).seq)],
                          AB.cells 36
                            [SV.d (Value.int IntKind.u64 (takeP L (f (0 + i.toNat)).seq).seq),
                              SV.d (Value.int IntKind.i64 (takeP L (f (0 + i.toNat)).seq).mi),
                              SV.d (Value.int IntKind.i64 (takeP L (f (0 + i.toNat)).seq).size),
                              SV.d (Value.int IntKind.i64 (takeP L (f (0 + i.toNat)).seq).sent)]]))
                    (T.ite (takeE L (f (0 + i.toNat)).seq == 0)
                      (T.ite ((takeP L (f (0 + i.toNat)).seq).seq != (f (0 + i.toNat)).seq)
                        (T.ret
                          (Exit.ret,
                            [AV.e (EV.s (SV.d (Value.int IntKind.u64 first))), AV.e (EV.s (SV.sl 0 5 0 ns z)),
                              AV.e (EV.s (SV.ptr 1 0)), AV.e (EV.s (SV.sl 3 4 0 a 0)), AV.e (EV.s (SV.sl 4 4 0 b 0)),
                              AV.e (EV.s (SV.d (Value.int IntKind.i64 i)))],
                            [AB.ro 5 ns (stF f),
                              AB.cells 86
                                [SV.d (Value.int IntKind.i64 (takeL L (f (0 + i.toNat)).seq).room),
                                  SV.d (Value.int IntKind.u64 (takeL L (f (0 + i.toNat)).seq).first),
                                  SV.d (Value.int IntKind.u64 (takeL L (f (0 + i.toNat)).seq).next),
                                  SV.d (Value.int IntKind.i64 (takeL L (f (0 + i.toNat)).seq).last), SV.mp 2],
                              AB.pm (takeL L (f (0 + i.toNat)).seq).es, AB.row 36 4 a ga, AB.row 36 4 b gb,
                              AB.cells 32
                                [SV.d (Value.int IntKind.i64 (f (0 + i.toNat)).kind),
                                  SV.d (Value.int IntKind.i64 (f (0 + i.toNat)).mi),
                                  SV.d (Value.int IntKind.i64 (f (0 + i.toNat)).size),
                                  SV.d (Value.int IntKind.i64 (f (0 + i.toNat)).att),
                                  SV.d (Value.int IntKind.u64 (f (0 + i.toNat)).seq)],
                              AB.cells 36
                                [SV.d (Value.int IntKind.u64 (takeP L (f (0 + i.toNat)).seq).seq),
                                  SV.d (Value.int IntKind.i64 (takeP L (f (0 + i.toNat)).seq).mi),
                                  SV.d (Value.int IntKind.i64 (takeP L (f (0 + i.toNat)).seq).size),
                                  SV.d (Value.int IntKind.i64 (takeP L (f (0 + i.toNat)).seq).sent)]]))
                        (T.ret
                          (Exit.normal,
                            [AV.e (EV.s (SV.d (Value.int IntKind.u64 first))), AV.e (EV.s (SV.sl 0 5 0 ns z)),
                              AV.e (EV.s (SV.ptr 1 0)), AV.e (EV.s (SV.sl 3 4 0 a 0)), AV.e (EV.s (SV.sl 4 4 0 b 0)),
                              AV.e (EV.s (SV.d (Value.int IntKind.i64 (IntKind.i64.wrap (i + 1)))))],
                            [AB.ro 5 ns (stF f),
                              AB.cells 86
                                [SV.d (Value.int IntKind.i64 (takeL L (f (0 + i.toNat)).seq).room),
                                  SV.d (Value.int IntKind.u64 (takeL L (f (0 + i.toNat)).seq).first),
                                  SV.d (Value.int IntKind.u64 (takeL L (f (0 + i.toNat)).seq).next),
                                  SV.d (Value.int IntKind.i64 (takeL L (f (0 + i.toNat)).seq).last), SV.mp 2],
                              AB.pm (takeL L (f (0 + i.toNat)).seq).es, AB.row 36 4 a ga, AB.row 36 4 b gb,
                              AB.cells 32
                                [SV.d (Value.int IntKind.i64 (f (0 + i.toNat)).kind),
                                  SV.d (Value.int IntKind.i64 (f (0 + i.toNat)).mi),
                                  SV.d (Value.int IntKind.i64 (f (0 + i.toNat)).size),
                                  SV.d (Value.int IntKind.i64 (f (0 + i.toNat)).att),
                                  SV.d (Value.int IntKind.u64 (f (0 + i.toNat)).seq)],
                              AB.cells 36
                                [SV.d (Value.int IntKind.u64 (takeP L (f (0 + i.toNat)).seq).seq),
                                  SV.d (Value.int IntKind.i64 (takeP L (f (0 + i.toNat)).seq).mi),
                                  SV.d (Value.int IntKind.i64 (takeP L (f (0 + i.toNat)).seq).size),
                                  SV.d (Value.int IntKind.i64 (takeP L (f (0 + i.toNat)).seq).sent)]])))
                      (T.ret
                        (Exit.normal,
                          [AV.e (EV.s (SV.d (Value.int IntKind.u64 first))), AV.e (EV.s (SV.sl 0 5 0 ns z)),
                            AV.e (EV.s (SV.ptr 1 0)), AV.e (EV.s (SV.sl 3 4 0 a 0)), AV.e (EV.s (SV.sl 4 4 0 b 0)),
                            AV.e (EV.s (SV.d (Value.int IntKind.i64 (IntKind.i64.wrap (i + 1)))))],
                          [AB.ro 5 ns (stF f),
                            AB.cells 86
                              [SV.d (Value.int IntKind.i64 (takeL L (f (0 + i.toNat)).seq).room),
                                SV.d (Value.int IntKind.u64 (takeL L (f (0 + i.toNat)).seq).first),
                                SV.d (Value.int IntKind.u64 (takeL L (f (0 + i.toNat)).seq).next),
                                SV.d (Value.int IntKind.i64 (takeL L (f (0 + i.toNat)).seq).last), SV.mp 2],
                            AB.pm (takeL L (f (0 + i.toNat)).seq).es, AB.row 36 4 a ga, AB.row 36 4 b gb,
                            AB.cells 32
                              [SV.d (Value.int IntKind.i64 (f (0 + i.toNat)).kind),
                                SV.d (Value.int IntKind.i64 (f (0 + i.toNat)).mi),
                                SV.d (Value.int IntKind.i64 (f (0 + i.toNat)).size),
                                SV.d (Value.int IntKind.i64 (f (0 + i.toNat)).att),
                                SV.d (Value.int IntKind.u64 (f (0 + i.toNat)).seq)],
                            AB.cells 36
                              [SV.d (Value.int IntKind.u64 (takeP L (f (0 + i.toNat)).seq).seq),
                                SV.d (Value.int IntKind.i64 (takeP L (f (0 + i.toNat)).seq).mi),
                                SV.d (Value.int IntKind.i64 (takeP L (f (0 + i.toNat)).seq).size),
                                SV.d (Value.int IntKind.i64 (takeP L (f (0 + i.toNat)).seq).sent)]]))))))
              (T.need (L.Ok ∧ I64 (f (0 + i.toNat)).att ∧ I64 (f (0 + i.toNat)).size)
                (T.need
                  (0 + b ≤ b ∧
                    0 + (expP L (f (0 + i.toNat)).att (f (0 + i.toNat)).size).length ≤
                        (expP L (f (0 + i.toNat)).att (f (0 + i.toNat)).size).length ∧
                      b + (expP L (f (0 + i.toNat)).att (f (0 + i.toNat)).size).length ≤ most)
                  (T.ret
                    (Exit.normal,
                      [AV.e (EV.s (SV.d (Value.int IntKind.u64 first))), AV.e (EV.s (SV.sl 0 5 0 ns z)),
                        AV.e (EV.s (SV.ptr 1 0)), AV.e (EV.s (SV.sl 3 4 0 a 0)),
                        AV.e (EV.s (SV.sl 7 4 0 (b + (expP L (f (0 + i.toNat)).att (f (0 + i.toNat)).size).length) 0)),
                        AV.e (EV.s (SV.d (Value.int IntKind.i64 (IntKind.i64.wrap (i + 1)))))],
                      [AB.ro 5 ns (stF f),
                        AB.cells 86
                          [SV.d (Value.int IntKind.i64 (expL L (f (0 + i.toNat)).att (f (0 + i.toNat)).size).room),
                            SV.d (Value.int IntKind.u64 (expL L (f (0 + i.toNat)).att (f (0 + i.toNat)).size).first),
                            SV.d (Value.int IntKind.u64 (expL L (f (0 + i.toNat)).att (f (0 + i.toNat)).size).next),
                            SV.d (Value.int IntKind.i64 (expL L (f (0 + i.toNat)).att (f (0 + i.toNat)).size).last),
                            SV.mp 2],
                        AB.pm (expL L (f (0 + i.toNat)).att (f (0 + i.toNat)).size).es, AB.row 36 4 a ga, AB.dead,
                        AB.cells 32
                          [SV.d (Value.int IntKind.i64 (f (0 + i.toNat)).kind),
                            SV.d (Value.int IntKind.i64 (f (0 + i.toNat)).mi),
                            SV.d (Value.int IntKind.i64 (f (0 + i.toNat)).size),
                            SV.d (Value.int IntKind.i64 (f (0 + i.toNat)).att),
                            SV.d (Value.int IntKind.u64 (f (0 + i.toNat)).seq)],
                        AB.row 36 4 (expP L (f (0 + i.toNat)).att (f (0 + i.toNat)).size).length
                          (pkG (expP L (f (0 + i.toNat)).att (f (0 + i.toNat)).size)),
                        AB.row 36 4 (b + (expP L (f (0 + i.toNat)).att (f (0 + i.toNat)).size).length)
                          (appendG gb 0 b (pkG (expP L (f (0 + i.toNat)).att (f (0 + i.toNat)).size)) 0)]))))))))
      (T.ret
        (Exit.exit 0,
          [AV.e (EV.s (SV.d (Value.int IntKind.u64 first))), AV.e (EV.s (SV.sl 0 5 0 ns z)), AV.e (EV.s (SV.ptr 1 0)),
            AV.e (EV.s (SV.sl 3 4 0 a 0)), AV.e (EV.s (SV.sl 4 4 0 b 0)), AV.e (EV.s (SV.d (Value.int IntKind.i64 i)))],
          [AB.ro 5 ns (stF f),
            AB.cells 86
              [SV.d (Value.int IntKind.i64 L.room), SV.d (Value.int IntKind.u64 L.first),
                SV.d (Value.int IntKind.u64 L.next), SV.d (Value.int IntKind.i64 L.last), SV.mp 2],
            AB.pm L.es, AB.row 36 4 a ga, AB.row 36 4 b gb])) := by kernel_rfl


noncomputable def t4k (room first : Int) (ns z : Nat) (f : Nat → Stp) (L : LSt) (a : Nat) (fa : Nat → Pkt) (b : Nat) (gb : Nat → List Value) (i : Int) (vs : Nat → Value) : T (AV × Heap) := ((t4 room first ns z f).go [false, false]).kont (.exit 0) ⟨fat [1, 2, 7, 9, 10, 11] vs (x4 first ns z a b i) 163 0, H4 ns f L a (pkF fa) b gb⟩

theorem t4k_eq (room first : Int) (ns z : Nat) (f : Nat → Stp) (L : LSt) (a : Nat) (fa : Nat → Pkt) (b : Nat) (gb : Nat → List Value) (i : Int) (vs : Nat → Value) : t4k room first ns z f L a fa b gb i vs =
    T.need L.Ok
      (T.need (0 + b ≤ b ∧ 0 + L.es.length ≤ L.es.length ∧ b + L.es.length ≤ most)
        (T.ite ((↑(b + L.es.length) : Int) != (↑a : Int))
          (T.ret (AV.e (EV.s (SV.c (Value.bool false))), [AB.ro 5 ns (stF f)]))
          (T.code 1 (loopAt Try.prog 4 1).loop
            {
              fr :=
                [AV.e (EV.s (SV.d (vs 0))), AV.e (EV.s (SV.d (Value.int IntKind.u64 first))),
                  AV.e (EV.s (SV.sl 0 5 0 ns z)), AV.e (EV.s (SV.d (vs 3))), AV.e (EV.s (SV.d (vs 4))),
                  AV.e (EV.s (SV.d (vs 5))), AV.e (EV.s (SV.d (vs 6))), AV.e (EV.s (SV.ptr 1 0)), AV.e (EV.s (SV.d (vs 8))),
                  AV.e (EV.s (SV.sl 3 4 0 a 0)), AV.e (EV.s (SV.sl 6 4 0 (b + L.es.length) 0)),
                  AV.e (EV.s (SV.d (Value.int IntKind.i64 i))), AV.e (EV.s (SV.d (vs 12))), AV.e (EV.s (SV.d (vs 13))),
                  AV.e (EV.s (SV.d (vs 14))), AV.e (EV.s (SV.d (vs 15))), AV.e (EV.s (SV.d (vs 16))),
                  AV.e (EV.s (SV.c (Value.int IntKind.i64 0))), AV.e (EV.s (SV.d (vs 18))), AV.e (EV.s (SV.d (vs 19))),
                  AV.e (EV.s (SV.d (vs 20))), AV.e (EV.s (SV.d (vs 21))), AV.e (EV.s (SV.d (vs 22))),
                  AV.e (EV.s (SV.d (vs 23))), AV.e (EV.s (SV.d (vs 24))), AV.e (EV.s (SV.d (vs 25))),
                  AV.e (EV.s (SV.d (vs 26))), AV.e (EV.s (SV.d (vs 27))), AV.e (EV.s (SV.d (vs 28))),
                  AV.e (EV.s (SV.d (vs 29))), AV.e (EV.s (SV.d (vs 30))), AV.e (EV.s (SV.d (vs 31))),
                  AV.e (EV.s (SV.d (vs 32))), AV.e (EV.s (SV.d (vs 33))), AV.e (EV.s (SV.d (vs 34))),
                  AV.e (EV.s (SV.d (vs 35))), AV.e (EV.s (SV.d (vs 36))), AV.e (EV.s (SV.d (vs 37))),
                  AV.e (EV.s (SV.d (vs 38))), AV.e (EV.s (SV.d (vs 39))), AV.e (EV.s (SV.d (vs 40))),
                  AV.e (EV.s (SV.d (vs 41))), AV.e (EV.s (SV.d (vs 42))), AV.e (EV.s (SV.d (vs 43))),
                  AV.e (EV.s (SV.d (vs 44))), AV.e (EV.s (SV.d (vs 45))), AV.e (EV.s (SV.d (vs 46))),
                  AV.e (EV.s (SV.d (vs 47))), AV.e (EV.s (SV.d (vs 48))), AV.e (EV.s (SV.d (vs 49))),
                  AV.e (EV.s (SV.d (vs 50))), AV.e (EV.s (SV.d (vs 51))), AV.e (EV.s (SV.d (vs 52))),
                  AV.e (EV.s (SV.d (vs 53))), AV.e (EV.s (SV.d (vs 54))), AV.e (EV.s (SV.d (vs 55))),
                  AV.e (EV.s (SV.d (vs 56))), AV.e (EV.s (SV.d (vs 57))), AV.e (EV.s (SV.d (vs 58))),
                  AV.e (EV.s (SV.d (vs 59))), AV.e (EV.s (SV.d (vs 60))), AV.e (EV.s (SV.d (vs 61))),
                  AV.e (EV.s (SV.d (vs 62))), AV.e (EV.s (SV.d (vs 63))), AV.e (EV.s (SV.d (vs 64))),
                  AV.e (EV.s (SV.d (vs 65))), AV.e (EV.s (SV.d (vs 66))), AV.e (EV.s (SV.d (vs 67))),
                  AV.e (EV.s (SV.d (vs 68))), AV.e (EV.s (SV.d (vs 69))), AV.e (EV.s (SV.d (vs 70))),
                  AV.e (EV.s (SV.d (vs 71))), AV.e (EV.s (SV.d (vs 72))), AV.e (EV.s (SV.d (vs 73))),
                  AV.e (EV.s (SV.d (vs 74))), AV.e (EV.s (SV.d (vs 75))), AV.e (EV.s (SV.d (vs 76))),
                  AV.e (EV.s (SV.d (vs 77))), AV.e (EV.s (SV.d (vs 78))), AV.e (EV.s (SV.d (vs 79))),
                  AV.e (EV.s (SV.d (vs 80))), AV.e (EV.s (SV.d (vs 81))), AV.e (EV.s (SV.d (vs 82))),
                  AV.e (EV.s (SV.d (vs 83))), AV.e (EV.s (SV.d (vs 84))), AV.e (EV.s (SV.d (vs 85))),
                  AV.e (EV.s (SV.d (vs 86))), AV.e (EV.s (SV.d (vs 87))), AV.e (EV.s (SV.d (vs 88))),
                  AV.e (EV.s (SV.d (vs 89))), AV.e (EV.s (SV.d (vs 90))), AV.e (EV.s (SV.d (vs 91))),
                  AV.e (EV.s (SV.d (vs 92))), AV.e (EV.s (SV.d (vs 93))), AV.e (EV.s (SV.d (vs 94))),
                  AV.e (EV.s (SV.d (vs 95))), AV.e (EV.s (SV.d (vs 96))), AV.e (EV.s (SV.d (vs 97))),
                  AV.e (EV.s (SV.d (vs 98))), AV.e (EV.s (SV.d (vs 99))), AV.e (EV.s (SV.d (vs 100))),
                  AV.e (EV.s (SV.d (vs 101))), AV.e (EV.s (SV.d (vs 102))), AV.e (EV.s (SV.d (vs 103))),
                  AV.e (EV.s (SV.d (vs 104))), AV.e (EV.s (SV.d (vs 105))), AV.e (EV.s (SV.d (vs 106))),
                  AV.e (EV.s (SV.d (vs 107))), AV.e (EV.s (SV.d (vs 108))), AV.e (EV.s (SV.d (vs 109))),
                  AV.e (EV.s (SV.d (vs 110))), AV.e (EV.s (SV.d (vs 111))), AV.e (EV.s (SV.d (vs 112))),
                  AV.e (EV.s (SV.d (vs 113))), AV.e (EV.s (SV.d (vs 114))), AV.e (EV.s (SV.d (vs 115))),
                  AV.e (EV.s (SV.sl 4 4 0 b 0)), AV.e (EV.s (SV.ptr 1 0)), AV.e (EV.s (SV.sl 5 4 0 L.es.length 0)),
                  AV.e (EV.s (SV.sl 6 4 0 (b + L.es.length) 0)), AV.e (EV.s (SV.sl 6 4 0 (b + L.es.length) 0)),
                  AV.e (EV.s (SV.d (Value.int IntKind.i64 (↑(b + L.es.length) : Int)))), AV.e (EV.s (SV.sl 3 4 0 a 0)),
                  AV.e (EV.s (SV.d (Value.int IntKind.i64 (↑a : Int)))), AV.e (EV.s (SV.c (Value.bool false))),
                  AV.e (EV.s (SV.d (vs 125))), AV.e (EV.s (SV.d (vs 126))), AV.e (EV.s (SV.d (vs 127))),
                  AV.e (EV.s (SV.d (vs 128))), AV.e (EV.s (SV.d (vs 129))), AV.e (EV.s (SV.d (vs 130))),
                  AV.e (EV.s (SV.d (vs 131))), AV.e (EV.s (SV.d (vs 132))), AV.e (EV.s (SV.d (vs 133))),
                  AV.e (EV.s (SV.d (vs 134))), AV.e (EV.s (SV.d (vs 135))), AV.e (EV.s (SV.d (vs 136))),
                  AV.e (EV.s (SV.d (vs 137))), AV.e (EV.s (SV.d (vs 138))), AV.e (EV.s (SV.d (vs 139))),
                  AV.e (EV.s (SV.d (vs 140))), AV.e (EV.s (SV.d (vs 141))), AV.e (EV.s (SV.d (vs 142))),
                  AV.e (EV.s (SV.d (vs 143))), AV.e (EV.s (SV.d (vs 144))), AV.e (EV.s (SV.d (vs 145))),
                  AV.e (EV.s (SV.d (vs 146))), AV.e (EV.s (SV.d (vs 147))), AV.e (EV.s (SV.d (vs 148))),
                  AV.e (EV.s (SV.d (vs 149))), AV.e (EV.s (SV.d (vs 150))), AV.e (EV.s (SV.d (vs 151))),
                  AV.e (EV.s (SV.d (vs 152))), AV.e (EV.s (SV.d (vs 153))), AV.e (EV.s (SV.d (vs 154))),
                  AV.e (EV.s (SV.d (vs 155))), AV.e (EV.s (SV.d (vs 156))), AV.e (EV.s (SV.d (vs 157))),
                  AV.e (EV.s (SV.d (vs 158))), AV.e (EV.s (SV.d (vs 159))), AV.e (EV.s (SV.d (vs 160))),
                  AV.e (EV.s (SV.d (vs 161))), AV.e (EV.s (SV.d (vs 162)))],
              H :=
                [AB.ro 5 ns (stF f),
                  AB.cells 86
                    [SV.d (Value.int IntKind.i64 L.room), SV.d (Value.int IntKind.u64 L.first),
                      SV.d (Value.int IntKind.u64 L.next), SV.d (Value.int IntKind.i64 L.last), SV.mp 2],
                  AB.pm L.es, AB.row 36 4 a (pkF fa), AB.dead, AB.row 36 4 L.es.length (pkG L.es),
                  AB.row 36 4 (b + L.es.length) (appendG gb 0 b (pkG L.es) 0)] :
              St }
            (T.go [true, true, false] (t4k room first ns z f L a fa b gb i vs)).kont))) := by kernel_rfl


/-- What was sent, what is gone: behind the script. -/
def G4 (a b : Nat) (fa fb : Nat → Pkt) : Heap := [.dead, .dead, .dead, .row 36 4 a (pkF fa), .row 36 4 b (pkF fb)]
def y4 (first : Int) (a b : Nat) (i : Int) : List AV := [.d (.int .u64 first), .e (.s (.sl 3 4 0 a 0)), .e (.s (.sl 4 4 0 b 0)), .d (.int .i64 i)]

noncomputable def t4c (first : Int) (a b : Nat) (fa fb : Nat → Pkt) (i : Int) (vs : Nat → Value) : T (Exit × List AV × Heap) := bodyT Try.prog e4 1 o4 1 (loopAt Try.prog 4 1) [1, 9, 10, 17] 163 (y4 first a b i) (G4 a b fa fb) vs

theorem t4c_eq (first : Int) (a b : Nat) (fa fb : Nat → Pkt) (i : Int) (vs : Nat → Value) : t4c first a b fa fb i vs =
    T.ite (decide (i < (↑a : Int)))
      (T.code 1 (loopAt Try.prog 4 2).loop
        {
          fr :=
            [AV.e (EV.s (SV.d (vs 0))), AV.e (EV.s (SV.d (Value.int IntKind.u64 first))), AV.e (EV.s (SV.d (vs 2))),
              AV.e (EV.s (SV.d (vs 3))), AV.e (EV.s (SV.d (vs 4))), AV.e (EV.s (SV.d (vs 5))), AV.e (EV.s (SV.d (vs 6))),
              AV.e (EV.s (SV.d (vs 7))), AV.e (EV.s (SV.d (vs 8))), AV.e (EV.s (SV.sl 3 4 0 a 0)),
              AV.e (EV.s (SV.sl 4 4 0 b 0)), AV.e (EV.s (SV.d (vs 11))), AV.e (EV.s (SV.d (vs 12))),
              AV.e (EV.s (SV.d (vs 13))), AV.e (EV.s (SV.d (vs 14))), AV.e (EV.s (SV.d (vs 15))),
              AV.e (EV.s (SV.d (vs 16))), AV.e (EV.s (SV.d (Value.int IntKind.i64 i))),
              AV.e (EV.s (SV.c (Value.int IntKind.i64 0))), AV.e (EV.s (SV.c (Value.int IntKind.i64 0))),
              AV.e (EV.s (SV.d (vs 20))), AV.e (EV.s (SV.d (vs 21))), AV.e (EV.s (SV.d (vs 22))),
              AV.e (EV.s (SV.d (vs 23))), AV.e (EV.s (SV.d (vs 24))), AV.e (EV.s (SV.d (vs 25))),
              AV.e (EV.s (SV.d (vs 26))), AV.e (EV.s (SV.d (vs 27))), AV.e (EV.s (SV.d (vs 28))),
              AV.e (EV.s (SV.d (vs 29))), AV.e (EV.s (SV.d (vs 30))), AV.e (EV.s (SV.d (vs 31))),
              AV.e (EV.s (SV.d (vs 32))), AV.e (EV.s (SV.d (vs 33))), AV.e (EV.s (SV.d (vs 34))),
              AV.e (EV.s (SV.d (vs 35))), AV.e (EV.s (SV.d (vs 36))), AV.e (EV.s (SV.d (vs 37))),
              AV.e (EV.s (SV.d (vs 38))), AV.e (EV.s (SV.d (vs 39))), AV.e (EV.s (SV.d (vs 40))),
              AV.e (EV.s (SV.d (vs 41))), AV.e (EV.s (SV.d (vs 42))), AV.e (EV.s (SV.d (vs 43))),
              AV.e (EV.s (SV.d (vs 44))), AV.e (EV.s (SV.d (vs 45))), AV.e (EV.s (SV.d (vs 46))),
              AV.e (EV.s (SV.d (vs 47))), AV.e (EV.s (SV.d (vs 48))), AV.e (EV.s (SV.d (vs 49))),
              AV.e (EV.s (SV.d (vs 50))), AV.e (EV.s (SV.d (vs 51))), AV.e (EV.s (SV.d (vs 52))),
              AV.e (EV.s (SV.d (vs 53))), AV.e (EV.s (SV.d (vs 54))), AV.e (EV.s (SV.d (vs 55))),
              AV.e (EV.s (SV.d (vs 56))), AV.e (EV.s (SV.d (vs 57))), AV.e (EV.s (SV.d (vs 58))),
              AV.e (EV.s (SV.d (vs 59))), AV.e (EV.s (SV.d (vs 60))), AV.e (EV.s (SV.d (vs 61))),
              AV.e (EV.s (SV.d (vs 62))), AV.e (EV.s (SV.d (vs 63))), AV.e (EV.s (SV.d (vs 64))),
              AV.e (EV.s (SV.d (vs 65))), AV.e (EV.s (SV.d (vs 66))), AV.e (EV.s (SV.d (vs 67))),
              AV.e (EV.s (SV.d (vs 68))), AV.e (EV.s (SV.d (vs 69))), AV.e (EV.s (SV.d (vs 70))),
              AV.e (EV.s (SV.d (vs 71))), AV.e (EV.s (SV.d (vs 72))), AV.e (EV.s (SV.d (vs 73))),
              AV.e (EV.s (SV.d (vs 74))), AV.e (EV.s (SV.d (vs 75))), AV.e (EV.s (SV.d (vs 76))),
              AV.e (EV.s (SV.d (vs 77))), AV.e (EV.s (SV.d (vs 78))), AV.e (EV.s (SV.d (vs 79))),
              AV.e (EV.s (SV.d (vs 80))), AV.e (EV.s (SV.d (vs 81))), AV.e (EV.s (SV.d (vs 82))),
              AV.e (EV.s (SV.d (vs 83))), AV.e (EV.s (SV.d (vs 84))), AV.e (EV.s (SV.d (vs 85))),
              AV.e (EV.s (SV.d (vs 86))), AV.e (EV.s (SV.d (vs 87))), AV.e (EV.s (SV.d (vs 88))),
              AV.e (EV.s (SV.d (vs 89))), AV.e (EV.s (SV.d (vs 90))), AV.e (EV.s (SV.d (vs 91))),
              AV.e (EV.s (SV.d (vs 92))), AV.e (EV.s (SV.d (vs 93))), AV.e (EV.s (SV.d (vs 94))),
              AV.e (EV.s (SV.d (vs 95))), AV.e (EV.s (SV.d (vs 96))), AV.e (EV.s (SV.d (vs 97))),
              AV.e (EV.s (SV.d (vs 98))), AV.e (EV.s (SV.d (vs 99))), AV.e (EV.s (SV.d (vs 100))),
              AV.e (EV.s (SV.d (vs 101))), AV.e (EV.s (SV.d (vs 102))), AV.e (EV.s (SV.d (vs 103))),
              AV.e (EV.s (SV.d (vs 104))), AV.e (EV.s (SV.d (vs 105))), AV.e (EV.s (SV.d (vs 106))),
              AV.e (EV.s (SV.d (vs 107))), AV.e (EV.s (SV.d (vs 108))), AV.e (EV.s (SV.d (vs 109))),
              AV.e (EV.s (SV.d (vs 110))), AV.e (EV.s (SV.d (vs 111))), AV.e (EV.s (SV.d (vs 112))),
              AV.e (EV.s (SV.d (vs 113))), AV.e (EV.s (SV.d (vs 114))), AV.e (EV.s (SV.d (vs 115))),
              AV.e (EV.s (SV.d (vs 116))), AV.e (EV.s (SV.d (vs 117))), AV.e (EV.s (SV.d (vs 118))),
              AV.e (EV.s (SV.d (vs 119))), AV.e (EV.s (SV.d (vs 120))), AV.e (EV.s (SV.d (vs 121))),
              AV.e (EV.s (SV.d (vs 122))), AV.e (EV.s (SV.d (vs 123))), AV.e (EV.s (SV.d (vs 124))),
              AV.e (EV.s (SV.d (Value.int IntKind.i64 i))), AV.e (EV.s (SV.sl 3 4 0 a 0)),
              AV.e (EV.s (SV.d (Value.int IntKind.i64 (↑a : Int)))), AV.e (EV.s (SV.c (Value.bool true))),
              AV.e (EV.s (SV.d (vs 129))), AV.e (EV.s (SV.d (vs 130))), AV.e (EV.s (SV.d (vs 131))),
              AV.e (EV.s (SV.d (vs 132))), AV.e (EV.s (SV.d (vs 133))), AV.e (EV.s (SV.d (vs 134))),
              AV.e (EV.s (SV.d (vs 135))), AV.e (EV.s (SV.d (vs 136))), AV.e (EV.s (SV.d (vs 137))),
              AV.e (EV.s (SV.d (vs 138))), AV.e (EV.s (SV.d (vs 139))), AV.e (EV.s (SV.d (vs 140))),
              AV.e (EV.s (SV.d (vs 141))), AV.e (EV.s (SV.d (vs 142))), AV.e (EV.s (SV.d (vs 143))),
              AV.e (EV.s (SV.d (vs 144))), AV.e (EV.s (SV.d (vs 145))), AV.e (EV.s (SV.d (vs 146))),
              AV.e (EV.s (SV.d (vs 147))), AV.e (EV.s (SV.d (vs 148))), AV.e (EV.s (SV.d (vs 149))),
              AV.e (EV.s (SV.d (vs 150))), AV.e (EV.s (SV.d (vs 151))), AV.e (EV.s (SV.d (vs 152))),
              AV.e (EV.s (SV.d (vs 153))), AV.e (EV.s (SV.d (vs 154))), AV.e (EV.s (SV.d (vs 155))),
              AV.e (EV.s (SV.d (vs 156))), AV.e (EV.s (SV.d (vs 157))), AV.e (EV.s (SV.d (vs 158))),
              AV.e (EV.s (SV.d (vs 159))), AV.e (EV.s (SV.d (vs 160))), AV.e (EV.s (SV.d (vs 161))),
              AV.e (EV.s (SV.d (vs 162)))],
          H := [AB.dead, AB.dead, AB.dead, AB.row 36 4 a (pkF fa), AB.row 36 4 b (pkF fb)] : St }
        (T.go [true] (t4c first a b fa fb i vs)).kont)
      (T.ret
        (Exit.exit 2,
          [AV.e (EV.s (SV.d (Value.int IntKind.u64 first))), AV.e (EV.s (SV.sl 3 4 0 a 0)), AV.e (EV.s (SV.sl 4 4 0 b 0)),
            AV.e (EV.s (SV.d (Value.int IntKind.i64 i)))],
          [AB.dead, AB.dead, AB.dead, AB.row 36 4 a (pkF fa), AB.row 36 4 b (pkF fb)])) := by kernel_rfl


def z4 (first : Int) (a b : Nat) (i m k : Int) : List AV := [.d (.int .u64 first), .e (.s (.sl 3 4 0 a 0)), .e (.s (.sl 4 4 0 b 0)), .d (.int .i64 i), .d (.int .i64 m), .d (.int .i64 k)]

noncomputable def t4d (first : Int) (a b : Nat) (fa fb : Nat → Pkt) (i m k : Int) (vs : Nat → Value) : T (Exit × List AV × Heap) := bodyT Try.prog e4 1 o4 1 (loopAt Try.prog 4 2) [1, 9, 10, 17, 18, 19] 163 (z4 first a b i m k) (G4 a b fa fb) vs

theorem t4d_eq (first : Int) (a b : Nat) (fa fb : Nat → Pkt) (i m k : Int) (vs : Nat → Value) : t4d first a b fa fb i m k vs =
    T.ite (decide (k < (↑b : Int)))
      (T.need (0 ≤ k ∧ k < (↑b : Int))
        (T.need (0 + k.toNat < b)
          (T.need (0 ≤ i ∧ i < (↑a : Int))
            (T.need (0 + i.toNat < a)
              (T.ite
                (if false = true then
                  !((fb (0 + k.toNat)).seq == (fa (0 + i.toNat)).seq &&
                      ((fb (0 + k.toNat)).mi == (fa (0 + i.toNat)).mi &&
                        ((fb (0 + k.toNat)).size == (fa (0 + i.toNat)).size &&
                          ((fb (0 + k.toNat)).sent == (fa (0 + i.toNat)).sent && true))))
                else
                  (fb (0 + k.toNat)).seq == (fa (0 + i.toNat)).seq &&
                    ((fb (0 + k.toNat)).mi == (fa (0 + i.toNat)).mi &&
                      ((fb (0 + k.toNat)).size == (fa (0 + i.toNat)).size &&
                        ((fb (0 + k.toNat)).sent == (fa (0 + i.toNat)).sent && true))))
                (T.ret
                  (Exit.normal,
                    [AV.e (EV.s (SV.d (Value.int IntKind.u64 first))), AV.e (EV.s (SV.sl 3 4 0 a 0)),
                      AV.e (EV.s (SV.sl 4 4 0 b 0)), AV.e (EV.s (SV.d (Value.int IntKind.i64 i))),
                      AV.e (EV.s (SV.d (Value.int IntKind.i64 (IntKind.i64.wrap (m + 1))))),
                      AV.e (EV.s (SV.d (Value.int IntKind.i64 (IntKind.i64.wrap (k + 1)))))],
                    [AB.dead, AB.dead, AB.dead, AB.row 36 4 a (pkF fa), AB.row 36 4 b (pkF fb)]))
                (T.ret
                  (Exit.normal,
                    [AV.e (EV.s (SV.d (Value.int IntKind.u64 first))), AV.e (EV.s (SV.sl 3 4 0 a 0)),
                      AV.e (EV.s (SV.sl 4 4 0 b 0)), AV.e (EV.s (SV.d (Value.int IntKind.i64 i))),
                      AV.e (EV.s (SV.d (Value.int IntKind.i64 m))),
                      AV.e (EV.s (SV.d (Value.int IntKind.i64 (IntKind.i64.wrap (k + 1)))))],
                    [AB.dead, AB.dead, AB.dead, AB.row 36 4 a (pkF fa), AB.row 36 4 b (pkF fb)])))))))
      (T.ret
        (Exit.exit 4,
          [AV.e (EV.s (SV.d (Value.int IntKind.u64 first))), AV.e (EV.s (SV.sl 3 4 0 a 0)), AV.e (EV.s (SV.sl 4 4 0 b 0)),
            AV.e (EV.s (SV.d (Value.int IntKind.i64 i))), AV.e (EV.s (SV.d (Value.int IntKind.i64 m))),
            AV.e (EV.s (SV.d (Value.int IntKind.i64 k)))],
          [AB.dead, AB.dead, AB.dead, AB.row 36 4 a (pkF fa), AB.row 36 4 b (pkF fb)])) := by kernel_rfl


theorem kl40 : codeB o4 (loopAt Try.prog 4 0) = true := by kernel_rfl
theorem kl41 : codeB o4 (loopAt Try.prog 4 1) = true := by kernel_rfl
theorem kl42 : codeB o4 (loopAt Try.prog 4 2) = true := by kernel_rfl

end Go.Proofs.Ythckkoledhjmeaa.Ev

/-
  Packets that are sent, gone, and on their way, in plain words; the statement LedgerOnce, told of the abstract evaluator's data.
-/
namespace Go.Proofs.Ythckkoledhjmeaa.Ev
open Go

/-- What was sent bears the numbers from the first one on. -/
def Sent (first : Int) (l : List Pkt) : Prop := ∀ j, j < l.length → (l.getD j Pkt.zero).seq = first + j

theorem sent_snoc {first : Int} {l : List Pkt} (h : Sent first l) {p : Pkt} (hp : p.seq = first + l.length) : Sent first (l ++ [p]) := by
  intro j hj
  rw [List.length_append, List.length_singleton] at hj
  rw [List.getD_eq_getElem?_getD]
  by_cases hl : j < l.length
  · rw [List.getElem?_append_left hl, ← List.getD_eq_getElem?_getD]; exact h j hl
  · have : j = l.length := by omega
    subst this
    simpa using hp

theorem sent_sorted {first : Int} {l : List Pkt} (h : Sent first l) : l.Pairwise fun a b => a.seq < b.seq := by
  rw [List.pairwise_iff_getElem]
  intro i j hi hj hij
  have h1 := h i hi
  have h2 := h j hj
  rw [List.getD_eq_getElem?_getD, List.getElem?_eq_getElem hi] at h1
  rw [List.getD_eq_getElem?_getD, List.getElem?_eq_getElem hj] at h2
  simp only [Option.getD_some] at h1 h2
  omega

/-- How often a packet is there. -/
def cnt (p : Pkt) (l : List Pkt) : Nat := (l.filter fun q => decide (q = p)).length

theorem cnt_perm {p : Pkt} {l m : List Pkt} (h : l.Perm m) : cnt p l = cnt p m := (h.filter _).length_eq

theorem cnt_one : ∀ {l : List Pkt}, (l.Pairwise fun a b => a.seq < b.seq) → ∀ p ∈ l, cnt p l = 1
  | [], _, p, hp => by cases hp
  | q :: l, h, p, hp => by
    obtain ⟨h1, h2⟩ := List.pairwise_cons.1 h
    unfold cnt
    rw [List.filter_cons]
    by_cases hq : q = p
    · subst hq
      have : l.filter (fun x => decide (x = q)) = [] := by
        rw [List.filter_eq_nil_iff]
        intro x hx
        have := h1 x hx
        simp only [decide_eq_true_eq]
        intro e
        subst e
        omega
      rw [this]
      simp
    · rcases List.mem_cons.1 hp with rfl | hp
      · exact absurd rfl hq
      · have := cnt_one h2 p hp
        unfold cnt at this
        simp only [hq, decide_false, Bool.false_eq_true, if_false]
        exact this

theorem cnt_snoc (p q : Pkt) (l : List Pkt) : cnt p (l ++ [q]) = cnt p l + if q = p then 1 else 0 := by
  unfold cnt
  rw [List.filter_append, List.length_append, List.filter_cons]
  split <;> simp_all

theorem find_perm : ∀ {es : List Pkt} {s : Int}, hasP es s = true → (findP es s :: delP es s).Perm es
  | [], s, h => by cases h
  | q :: es, s, h => by
    by_cases hq : (s == q.seq) = true
    · have h1 : findP (q :: es) s = q := by simp [findP, hq]
      have h2 : delP (q :: es) s = es := by simp [delP, hq]
      rw [h1, h2]
    · have hq : (s == q.seq) = false := by simpa using hq
      have h0 : hasP es s = true := by simpa [hasP, hq] using h
      have h1 : findP (q :: es) s = findP es s := by simp [findP, hq]
      have h2 : delP (q :: es) s = q :: delP es s := by simp [delP, hq]
      rw [h1, h2]
      exact (List.Perm.swap _ _ _).trans ((find_perm h0).cons q)

theorem find_mem {es : List Pkt} {s : Int} (h : hasP es s = true) : findP es s ∈ es ∧ (findP es s).seq = s := by
  have h1 : findP es s ∈ es := (find_perm h).subset (by simp)
  refine ⟨h1, ?_⟩
  unfold findP
  cases hf : es.find? (fun p => s == p.seq) with
  | none =>
    obtain ⟨p, hp, he⟩ := List.any_eq_true.1 h
    rw [List.find?_eq_none] at hf
    exact absurd he (hf p hp)
  | some p =>
    have := List.find?_some hf
    simp only [beq_iff_eq] at this
    exact this.symm

theorem exp_perm (L : LSt) (att tmo : Int) : (expP L att tmo ++ (expL L att tmo).es).Perm L.es := by
  unfold expP expL
  simp only
  induction L.es with
  | nil => exact List.Perm.refl _
  | cons p es ih =>
    simp only [List.filter_cons]
    cases overX att tmo p with
    | true => simpa using ih
    | false => simpa using List.perm_middle.trans (ih.cons p)

structure Once (first : Int) (L : LSt) (sent gone : List Pkt) : Prop where
  ok : L.Ok
  next : L.next = first + sent.length
  nums : Sent first sent
  perm : (gone ++ L.es).Perm sent

section
variable {first : Int} {L : LSt} {sent gone : List Pkt}

theorem once_send (h : Once first L sent gone) {mi size at' : Int} (h0 : sendE L mi size at' = 0) : Once first (sendL L mi size at') (sent ++ [⟨sendN L mi size at', mi, size, at'⟩]) gone := by
  have hN : sendN L mi size at' = L.next := by simp [sendN, h0]
  have hL : sendL L mi size at' = ⟨L.room, L.first, L.next + 1, at', L.es ++ [⟨L.next, mi, size, at'⟩]⟩ := by simp [sendL, h0]
  refine ⟨okL_send h.ok _ _ _, ?_, sent_snoc h.nums ?_, ?_⟩
  · rw [hL, List.length_append, List.length_singleton]
    have := h.next
    simp only
    omega
  · rw [hN]; exact h.next
  · rw [hL, hN]
    simp only
    rw [← List.append_assoc]
    exact h.perm.append_right _

theorem once_take (h : Once first L sent gone) {seq : Int} (h0 : takeE L seq = 0) : Once first (takeL L seq) sent (gone ++ [takeP L seq]) := by
  have hP : takeP L seq = findP L.es seq := by simp [takeP, h0]
  have hL : takeL L seq = ⟨L.room, L.first, L.next, L.last, delP L.es seq⟩ := by simp [takeL, h0]
  have hh : hasP L.es seq = true := by
    unfold takeE at h0
    split at h0
    · cases h0
    split at h0
    · cases h0
    split at h0
    · assumption
    · cases h0
  refine ⟨okL_take h.ok _, by rw [hL]; exact h.next, h.nums, ?_⟩
  rw [hL, hP]
  simp only
  rw [List.append_assoc]
  exact ((find_perm hh).append_left gone).trans h.perm

theorem take_zero (h : L.Ok) {seq : Int} (h0 : takeE L seq = 0) : (takeP L seq).size ≠ 0 ∧ (takeP L seq).seq = seq := by
  have hP : takeP L seq = findP L.es seq := by simp [takeP, h0]
  have hh : hasP L.es seq = true := by
    unfold takeE at h0
    split at h0
    · cases h0
    split at h0
    · cases h0
    split at h0
    · assumption
    · cases h0
  obtain ⟨h1, h2⟩ := find_mem hh
  rw [hP]
  exact ⟨by have := (h.pk _ h1).2.1; omega, h2⟩

theorem once_exp (h : Once first L sent gone) (att tmo : Int) : Once first (expL L att tmo) sent (gone ++ expP L att tmo) := by
  refine ⟨okL_exp h.ok _ _, h.next, h.nums, ?_⟩
  rw [List.append_assoc]
  exact ((exp_perm L att tmo).append_left gone).trans h.perm

theorem once_len (h : Once first L sent gone) : gone.length + L.es.length = sent.length := by
  have := h.perm.length_eq
  rwa [List.length_append] at this

end

theorem app_pks (a b : List Pkt) : ∀ j, j < a.length + b.length → appendG (pkG a) 0 a.length (pkG b) 0 j = pkG (a ++ b) j := by
  intro j hj
  simp only [appendG, pkG_get, Nat.zero_add]
  split
  · rename_i h
    rw [List.getD_eq_getElem?_getD, List.getD_eq_getElem?_getD, List.getElem?_append_left h]
  · rename_i h
    rw [List.getD_eq_getElem?_getD, List.getD_eq_getElem?_getD, List.getElem?_append_right (by omega)]

theorem e4ok : EntsOk Try.prog e4 := ⟨k4, s10ok, s12ok, s14ok, s17ok, s19ok, s22ok, trivial⟩

set_option maxRecDepth 100000 in
set_option maxHeartbeats 4000000 in
theorem body4 (first : Int) (ns z : Nat) (f : Nat → Stp) (hf : ∀ j, j < ns → (f j).Ok) (hns : ns ≤ 150) (L : LSt) (sent gone : List Pkt) (hO : Once first L sent gone) (i : Nat) (hi : sent.length ≤ i) (vs : Nat → Value) (Q : Exit → St → Prop)
    (hQ : ∀ vs : Nat → Value, ¬ (i : Int) < ns → Q (.exit 0) ⟨fat [1, 2, 7, 9, 10, 11] vs (x4 first ns z sent.length gone.length i) 163 0, H4 ns f L sent.length (pkG sent) gone.length (pkG gone)⟩) :
    (t4b first ns z f L sent.length (pkG sent) gone.length (pkG gone) i vs).sat Try.prog fun x => match x.1 with
      | .normal => Re 1 x.2.1 x.2.2 fun xs2 H2 => (∃ (i' : Nat) (L : LSt) (sent gone : List Pkt), (i' ≤ ns ∧ Once first L sent gone ∧ sent.length ≤ i') ∧ xs2 = x4 first ns z sent.length gone.length i' ∧ H2 = H4 ns f L sent.length (pkG sent) gone.length (pkG gone)) ∧ ns - ctr 5 xs2 < ns - i
      | e => ∀ vs, Q e ⟨fat [1, 2, 7, 9, 10, 11] vs x.2.1 163 0, x.2.2⟩ := by
  have hL := hO.ok
  have hlen := once_len hO
  rw [t4b_eq]
  have fin : ∀ (L2 : LSt) (s2 g2 : List Pkt), i < ns → Once first L2 s2 g2 → s2.length ≤ i + 1 → (∃ (i' : Nat) (L : LSt) (sent gone : List Pkt), (i' ≤ ns ∧ Once first L sent gone ∧ sent.length ≤ i') ∧ x4 first ns z s2.length g2.length (IntKind.i64.wrap (i + 1)) = x4 first ns z sent.length gone.length i' ∧ H4 ns f L2 s2.length (pkG s2) g2.length (pkG g2) = H4 ns f L sent.length (pkG sent) gone.length (pkG gone)) ∧ ns - ctr 5 (x4 first ns z s2.length g2.length (IntKind.i64.wrap (i + 1))) < ns - i := by
    intro L2 s2 g2 hlt h1 h2
    rw [wrap_succ (by omega)]
    refine ⟨⟨i + 1, L2, s2, g2, ⟨hlt, h1, h2⟩, rfl, rfl⟩, ?_⟩
    simp only [ctr, List.getD_cons_succ, List.getD_cons_zero, asInt, Option.getD_some, x4, Int.toNat_natCast]
    omega
  simp only [T.sat, Nat.zero_add, Int.toNat_natCast, decide_eq_true_eq, decide_eq_false_iff_not]
  refine ⟨fun hlt => ?_, fun hge vs => hQ vs hge⟩
  have hlt : i < ns := by omega
  have hs := hf i hlt
  refine ⟨by omega, hlt, fun _ => ⟨hL, fun h0 => ⟨⟨by omega, by simp [chunks_len], by unfold most; omega⟩, ?_⟩, fun h0 => ?_⟩, fun _ => ⟨fun _ => ⟨fun h0 => ⟨⟨by omega, by simp [chunks_len], by unfold most; omega⟩, ?_⟩, fun h0 => ?_⟩, fun _ => ⟨⟨hL, hs.att, hs.size⟩, ⟨by omega, by omega, ?_⟩, ?_⟩⟩⟩
  · -- sent
    have h0 : sendE L (f i).mi (f i).size (f i).att = 0 := by simpa using h0
    refine Re.row 7 (pkG (sent ++ [⟨sendN L (f i).mi (f i).size (f i).att, (f i).mi, (f i).size, (f i).att⟩])) rfl (app_pk sent _ _ rfl) (Re.ren [some 0, some 1, some 2, some 7, some 4] rfl rfl rfl (.refl ?_))
    have := fin _ _ gone hlt (once_send hO h0) (by rw [List.length_append, List.length_singleton]; omega)
    rw [List.length_append, List.length_singleton] at this
    exact this
  · -- refused
    have h0 : ¬ sendE L (f i).mi (f i).size (f i).att = 0 := by simpa using h0
    have hE : sendL L (f i).mi (f i).size (f i).att = L := by simp [sendL, h0]
    rw [hE]
    refine Re.ren [some 0, some 1, some 2, some 3, some 4] rfl rfl rfl (.refl ?_)
    exact fin L sent gone hlt hO (by omega)
  · -- taken
    have h0' : takeE L (f i).seq = 0 := by simpa using h0
    obtain ⟨g1, g2⟩ := take_zero hL h0'
    have hz : ((takeP L (f i).seq).size == 0) = false := by simpa using g1
    simp only [h0, hz, g2, bne_self_eq_false, Bool.false_and, Bool.and_false, Bool.not_false, if_true, Bool.true_eq_false, Bool.false_eq_true, false_implies, true_implies, true_and, and_true]
    refine Re.row 8 (pkG (gone ++ [takeP L (f i).seq])) rfl (app_pk gone _ _ (by simp only [Pkt.vals, g2]; rfl)) (Re.ren [some 0, some 1, some 2, some 3, some 8] rfl rfl rfl (.refl ?_))
    have := fin _ sent _ hlt (once_take hO h0') (by omega)
    rw [List.length_append, List.length_singleton] at this
    exact this
  · -- none is taken
    have h0' : ¬ takeE L (f i).seq = 0 := by simpa using h0
    have hP : takeP L (f i).seq = Pkt.zero := by simp [takeP, h0']
    have hE : takeL L (f i).seq = L := by simp [takeL, h0']
    rw [hP, hE]
    simp only [h0, Pkt.zero, beq_self_eq_true, Bool.and_self, Bool.not_true, if_true, Bool.false_eq_true, false_implies, true_implies, true_and]
    refine Re.ren [some 0, some 1, some 2, some 3, some 4] rfl rfl rfl (.refl ?_)
    exact fin L sent gone hlt hO (by omega)
  · have := exp_left L (f i).att (f i).size
    unfold most
    omega
  · refine Re.row 7 (pkG (gone ++ expP L (f i).att (f i).size)) rfl (app_pks gone _) (Re.ren [some 0, some 1, some 2, some 3, some 7] rfl rfl rfl (.refl ?_))
    have := fin _ sent _ hlt (once_exp hO (f i).att (f i).size) (by omega)
    rw [List.length_append] at this
    exact this

end Go.Proofs.Ythckkoledhjmeaa.Ev

/-
  The abstract evaluator's trees: the statement LedgerOnce, behind its loops.
-/
namespace Go.Proofs.Ythckkoledhjmeaa.Ev
open Go

noncomputable def t4ck (first : Int) (a b : Nat) (fa fb : Nat → Pkt) (i : Int) (vs0 : Nat → Value) (m k : Int) (vs : Nat → Value) : T (Exit × List AV × Heap) := ((t4c first a b fa fb i vs0).go [true]).kont (.exit 4) ⟨fat [1, 9, 10, 17, 18, 19] vs (z4 first a b i m k) 163 0, G4 a b fa fb⟩

theorem t4ck_eq (first : Int) (a b : Nat) (fa fb : Nat → Pkt) (i : Int) (vs0 : Nat → Value) (m k : Int) (vs : Nat → Value) : t4ck first a b fa fb i vs0 m k vs =
    T.ite (m != 1)
      (T.ret
        (Exit.ret,
          [AV.e (EV.s (SV.d (Value.int IntKind.u64 first))), AV.e (EV.s (SV.sl 3 4 0 a 0)), AV.e (EV.s (SV.sl 4 4 0 b 0)),
            AV.e (EV.s (SV.d (Value.int IntKind.i64 i)))],
          [AB.dead, AB.dead, AB.dead, AB.row 36 4 a (pkF fa), AB.row 36 4 b (pkF fb)]))
      (T.need (0 ≤ i ∧ i < (↑a : Int))
        (T.need (0 + i.toNat < a)
          (T.ite ((fa (0 + i.toNat)).seq != IntKind.u64.wrap (first + IntKind.u64.wrap i))
            (T.ret
              (Exit.ret,
                [AV.e (EV.s (SV.d (Value.int IntKind.u64 first))), AV.e (EV.s (SV.sl 3 4 0 a 0)),
                  AV.e (EV.s (SV.sl 4 4 0 b 0)), AV.e (EV.s (SV.d (Value.int IntKind.i64 i)))],
                [AB.dead, AB.dead, AB.dead, AB.row 36 4 a (pkF fa), AB.row 36 4 b (pkF fb)]))
            (T.ret
              (Exit.normal,
                [AV.e (EV.s (SV.d (Value.int IntKind.u64 first))), AV.e (EV.s (SV.sl 3 4 0 a 0)),
                  AV.e (EV.s (SV.sl 4 4 0 b 0)), AV.e (EV.s (SV.d (Value.int IntKind.i64 (IntKind.i64.wrap (i + 1)))))],
                [AB.dead, AB.dead, AB.dead, AB.row 36 4 a (pkF fa), AB.row 36 4 b (pkF fb)]))))) := by kernel_rfl


noncomputable def t4e (room first : Int) (ns z : Nat) (f : Nat → Stp) (L : LSt) (a0 : Nat) (fa0 : Nat → Pkt) (b0 : Nat) (gb0 : Nat → List Value) (i0 : Int) (vs0 : Nat → Value) (a b : Nat) (fa fb : Nat → Pkt) (i : Int) (vs : Nat → Value) : T (AV × Heap) := ((t4k room first ns z f L a0 fa0 b0 gb0 i0 vs0).go [true, true, false]).kont (.exit 2) ⟨fat [1, 9, 10, 17] vs (y4 first a b i) 163 0, G4 a b fa fb⟩

theorem t4e_eq (room first : Int) (ns z : Nat) (f : Nat → Stp) (L : LSt) (a0 : Nat) (fa0 : Nat → Pkt) (b0 : Nat) (gb0 : Nat → List Value) (i0 : Int) (vs0 : Nat → Value) (a b : Nat) (fa fb : Nat → Pkt) (i : Int) (vs : Nat → Value) : t4e room first ns z f L a0 fa0 b0 gb0 i0 vs0 a b fa fb i vs =
    T.ret (AV.e (EV.s (SV.c (Value.bool true))), [AB.dead]) := by kernel_rfl


end Go.Proofs.Ythckkoledhjmeaa.Ev

/-
  The statement LedgerOnce, told of the abstract evaluator's data.
-/
namespace Go.Proofs.Ythckkoledhjmeaa.Ev
open Go

theorem pkt_eq {p q : Pkt} : (p.seq == q.seq && (p.mi == q.mi && (p.size == q.size && (p.sent == q.sent && true)))) = decide (p = q) := by
  rw [Bool.eq_iff_iff]
  simp only [Bool.and_eq_true, beq_iff_eq, and_true, decide_eq_true_eq]
  constructor
  · rintro ⟨h1, h2, h3, h4⟩
    cases p; cases q; simp_all
  · rintro rfl; exact ⟨rfl, rfl, rfl, rfl⟩

section
variable {α : Type} (Q0 : α → Prop) (k : Exit → St → T α) (σ : St)

set_option maxRecDepth 100000 in
theorem once_3 (first : Int) (sent gone : List Pkt) (_ : sent.length ≤ 1000) (h2 : gone.length ≤ 1000) (i : Nat) (hi : i < sent.length)
    (hk : ∀ (vs : Nat → Value) (kk : Int), (k (.exit 4) ⟨fat [1, 9, 10, 17, 18, 19] vs (z4 first sent.length gone.length i (cnt (sent.getD i Pkt.zero) gone) kk) 163 0, G4 sent.length gone.length (fun j => sent.getD j Pkt.zero) (fun j => gone.getD j Pkt.zero)⟩).sat Try.prog Q0)
    (h0 : Re 1 (slim [1, 9, 10, 17, 18, 19] σ.fr) σ.H fun xs H => xs = z4 first sent.length gone.length i 0 0 ∧ H = G4 sent.length gone.length (fun j => sent.getD j Pkt.zero) (fun j => gone.getD j Pkt.zero)) (hN : σ.fr.length = 163) :
    CodeA Try.prog 1 (.loop (loopAt Try.prog 4 2)) σ fun e σ' => (k e σ').sat Try.prog Q0 := by
  have hn : ∀ (xs : List AV) (H : Heap), (∃ j : Nat, j ≤ gone.length ∧ xs = z4 first sent.length gone.length i (cnt (sent.getD i Pkt.zero) (gone.take j)) j ∧ H = G4 sent.length gone.length (fun j => sent.getD j Pkt.zero) (fun j => gone.getD j Pkt.zero)) → 1 ≤ H.length := by
    rintro xs H ⟨j, _, _, rfl⟩; show 1 ≤ 5; omega
  refine code_loop fine e4ok 1 kl42 (fun xs H => ∃ j : Nat, j ≤ gone.length ∧ xs = z4 first sent.length gone.length i (cnt (sent.getD i Pkt.zero) (gone.take j)) j ∧ H = G4 sent.length gone.length (fun j => sent.getD j Pkt.zero) (fun j => gone.getD j Pkt.zero)) (fun xs _ => gone.length - ctr 5 xs) hn ?_ hN (h0.mono fun xs H h => ⟨0, Nat.zero_le _, h⟩)
  intro xs H vs hI
  cases hI with | intro j hI =>
  have hj := hI.1
  rw [hI.2.1, hI.2.2]
  clear hI
  have e := t4d_eq first sent.length gone.length (fun j => sent.getD j Pkt.zero) (fun j => gone.getD j Pkt.zero) i (cnt (sent.getD i Pkt.zero) (gone.take j)) j vs
  unfold t4d at e
  rw [e]
  refine ⟨fun hlt => ?_, fun hge => fun vs => ?_⟩
  · have hlt : j < gone.length := by simpa using hlt
    have hc := cnt_snoc (sent.getD i Pkt.zero) (gone.getD j Pkt.zero) (gone.take j)
    rw [← take_next hlt] at hc
    have hcl : cnt (sent.getD i Pkt.zero) (gone.take j) ≤ 1000 := by
      unfold cnt
      exact Nat.le_trans (List.length_filter_le _ _) (by rw [List.length_take]; omega)
    simp only [T.sat, Int.toNat_natCast, Nat.zero_add, Bool.false_eq_true, if_false, pkt_eq, decide_eq_true_eq, decide_eq_false_iff_not]
    refine ⟨by omega, hlt, by omega, hi, fun he => ?_, fun he => ?_⟩
    · rw [if_pos he] at hc
      refine .refl ⟨⟨j + 1, by omega, ?_, rfl⟩, ?_⟩
      · rw [hc, wrap_succ (by omega), wrap_succ (by omega)]; rfl
      · simp only [ctr, List.getD_cons_succ, List.getD_cons_zero, asInt, Option.getD_some, z4]
        rw [wrap_succ (by omega)]
        omega
    · rw [if_neg he] at hc
      refine .refl ⟨⟨j + 1, by omega, ?_, rfl⟩, ?_⟩
      · rw [hc, wrap_succ (by omega)]; rfl
      · simp only [ctr, List.getD_cons_succ, List.getD_cons_zero, asInt, Option.getD_some, z4]
        rw [wrap_succ (by omega)]
        omega
  · have hge : gone.length ≤ j := by simpa using hge
    have : gone.take j = gone := List.take_of_length_le hge
    rw [this]
    exact hk vs j

end

set_option maxRecDepth 100000 in
theorem once_2 (first : Int) (h3 : 0 ≤ first) (sent gone : List Pkt) (h1 : sent.length ≤ 1000) (h2 : gone.length ≤ 1000) (hf : first + sent.length ≤ 18446744073709551615) (hs : Sent first sent) (hp : gone.Perm sent) (Q0 : AV × Heap → Prop) (k : Exit → St → T (AV × Heap)) (σ : St)
    (hk : ∀ (vs : Nat → Value) (i : Int), (k (.exit 2) ⟨fat [1, 9, 10, 17] vs (y4 first sent.length gone.length i) 163 0, G4 sent.length gone.length (fun j => sent.getD j Pkt.zero) (fun j => gone.getD j Pkt.zero)⟩).sat Try.prog Q0)
    (h0 : Re 1 (slim [1, 9, 10, 17] σ.fr) σ.H fun xs H => xs = y4 first sent.length gone.length 0 ∧ H = G4 sent.length gone.length (fun j => sent.getD j Pkt.zero) (fun j => gone.getD j Pkt.zero)) (hN : σ.fr.length = 163) :
    CodeA Try.prog 1 (.loop (loopAt Try.prog 4 1)) σ fun e σ' => (k e σ').sat Try.prog Q0 := by
  have hn : ∀ (xs : List AV) (H : Heap), (∃ i : Nat, xs = y4 first sent.length gone.length i ∧ H = G4 sent.length gone.length (fun j => sent.getD j Pkt.zero) (fun j => gone.getD j Pkt.zero)) → 1 ≤ H.length := by
    rintro xs H ⟨i, _, rfl⟩; show 1 ≤ 5; omega
  refine code_loop fine e4ok 1 kl41 (fun xs H => ∃ i : Nat, xs = y4 first sent.length gone.length i ∧ H = G4 sent.length gone.length (fun j => sent.getD j Pkt.zero) (fun j => gone.getD j Pkt.zero)) (fun xs _ => sent.length - ctr 3 xs) hn ?_ hN (h0.mono fun xs H h => ⟨0, h⟩)
  intro xs H vs hI
  cases hI with | intro i hI =>
  rw [hI.1, hI.2]
  clear hI
  show (t4c first sent.length gone.length (fun j => sent.getD j Pkt.zero) (fun j => gone.getD j Pkt.zero) i vs).sat _ _
  rw [t4c_eq]
  refine ⟨fun hlt => ?_, fun hge => fun vs => hk vs i⟩
  have hlt : i < sent.length := by simpa using hlt
  have hone : cnt (sent.getD i Pkt.zero) gone = 1 := by
    rw [cnt_perm hp]
    exact cnt_one (sent_sorted hs) _ (getD_mem hlt)
  generalize hk3 : (T.go [true] (t4c first sent.length gone.length (fun j => sent.getD j Pkt.zero) (fun j => gone.getD j Pkt.zero) i vs)).kont = k3
  refine once_3 _ k3 _ first sent gone h1 h2 i hlt ?_ ?_ rfl
  · intro vs2 kk
    have e2 := t4ck_eq first sent.length gone.length (fun j => sent.getD j Pkt.zero) (fun j => gone.getD j Pkt.zero) i vs (cnt (sent.getD i Pkt.zero) gone) kk vs2
    unfold t4ck at e2
    rw [hk3] at e2
    rw [e2, hone]
    have hw : IntKind.u64.wrap (i : Int) = i := wrapU (by omega) (by omega)
    have hw2 : IntKind.u64.wrap (first + i) = first + i := wrapU (by omega) (by omega)
    have hsi := hs i hlt
    have h11 : (((1 : Nat) : Int) != 1) = false := rfl
    have hsn : ((sent.getD i Pkt.zero).seq != first + i) = false := by rw [hsi]; simp
    simp only [T.sat, h11, hw, hw2, Nat.zero_add, Int.toNat_natCast, hsn, Bool.false_eq_true, false_implies, true_implies, true_and]
    refine ⟨by omega, hlt, .refl ⟨⟨i + 1, ?_, rfl⟩, ?_⟩⟩
    · rw [wrap_succ (by omega)]; rfl
    · simp only [ctr, List.getD_cons_succ, List.getD_cons_zero, asInt, Option.getD_some, y4]
      rw [wrap_succ (by omega)]
      omega
  · exact .toDm [false, false, false, false, true, true] [] (.refl ⟨rfl, rfl⟩)

set_option maxRecDepth 100000 in
theorem once_end (room first : Int) (ns z : Nat) (f : Nat → Stp) (hns : ns ≤ 150) (h3 : 0 ≤ first) (L : LSt) (sent gone : List Pkt) (hO : Once first L sent gone) (i : Nat) (hi : sent.length ≤ i) (hi2 : i ≤ ns) (vs : Nat → Value)
    (t : T (AV × Heap)) (ht : t = t4k room first ns z f L sent.length (fun j => sent.getD j Pkt.zero) gone.length (pkG gone) i vs) : t.sat Try.prog fun x => x.1 = .c (.bool true) := by
  rw [ht, t4k_eq]
  clear ht
  have hlen := once_len hO
  have hnx := hO.next
  have hmx := hO.ok.next
  have hne : (((gone.length + L.es.length : Nat) : Int) != (sent.length : Int)) = false := by rw [hlen]; simp
  refine ⟨hO.ok, ⟨by omega, by omega, by unfold most; omega⟩, fun h => ?_, fun _ => ?_⟩
  · rw [hne] at h; cases h
  · generalize hk : (T.go [true, true, false] (t4k room first ns z f L sent.length (fun j => sent.getD j Pkt.zero) gone.length (pkG gone) i vs)).kont = k
    refine once_2 first h3 sent (gone ++ L.es) (by omega) (by rw [List.length_append]; omega) (by omega) hO.nums hO.perm _ k _ ?_ ?_ rfl
    · intro vs2 i2
      have e2 := t4e_eq room first ns z f L sent.length (fun j => sent.getD j Pkt.zero) gone.length (pkG gone) i vs sent.length (gone ++ L.es).length (fun j => sent.getD j Pkt.zero) (fun j => (gone ++ L.es).getD j Pkt.zero) i2 vs2
      unfold t4e at e2
      rw [hk] at e2
      rw [e2]
      rfl
    · refine Re.row 6 (pkG (gone ++ L.es)) rfl (app_pks gone L.es) (Re.ren [none, none, none, some 3, some 6] rfl rfl rfl (.toDm [false, false, false, true] [] (.refl ⟨?_, ?_⟩)))
      · rw [List.length_append]; rfl
      · rw [List.length_append]; rfl

set_option maxRecDepth 100000 in
theorem once4 (room first : Int) (ns z : Nat) (f : Nat → Stp) (hf : ∀ j, j < ns → (f j).Ok) (h1 : 0 ≤ first) (h2 : first ≤ 18446744073709551615) :
    CallsA Try.prog 4 [.d (.int .i64 room), .d (.int .u64 first), .e (.s (.sl 0 5 0 ns z))] [.ro 5 ns (stF f)] fun r _ => r = .c (.bool true) := by
  refine calls_of fine e4ok 2 4 _ _ ?_
  show (t4 room first ns z f).sat _ _
  rw [t4_eq]
  generalize hk1 : (T.go [false, false] (t4 room first ns z f)).kont = k1
  simp only [T.sat, decide_eq_true_eq, decide_eq_false_iff_not, implies_true, true_and]
  intro hr hns
  have hns : ns ≤ 150 := by omega
  have hroom := newB_false hr
  have hn : ∀ (xs : List AV) (H : Heap), (∃ (i : Nat) (L : LSt) (sent gone : List Pkt), (i ≤ ns ∧ Once first L sent gone ∧ sent.length ≤ i) ∧ xs = x4 first ns z sent.length gone.length i ∧ H = H4 ns f L sent.length (pkG sent) gone.length (pkG gone)) → 1 ≤ H.length := by
    rintro xs H ⟨i, L, sent, gone, _, _, rfl⟩; show 1 ≤ 5; omega
  refine code_loop fine e4ok 1 (live := [1, 2, 7, 9, 10, 11]) (N := 163) kl40 (fun xs H => ∃ (i : Nat) (L : LSt) (sent gone : List Pkt), (i ≤ ns ∧ Once first L sent gone ∧ sent.length ≤ i) ∧ xs = x4 first ns z sent.length gone.length i ∧ H = H4 ns f L sent.length (pkG sent) gone.length (pkG gone)) (fun xs _ => ns - ctr 5 xs) hn ?_ rfl ?_
  · intro xs H vs hI
    cases hI with | intro i hI =>
    cases hI with | intro L hI =>
    cases hI with | intro sent hI =>
    cases hI with | intro gone hI =>
    have hi2 := hI.1.1
    have hO := hI.1.2.1
    have hi := hI.1.2.2
    have hxs := hI.2.1
    have hH := hI.2.2
    clear hI
    rw [hxs, hH]
    have hb := body4 first ns z f hf hns L sent gone hO i hi vs (fun e σ' => (k1 e σ').sat Try.prog fun x => x.1 = .c (.bool true)) (fun vs hge => by
      refine once_end room first ns z f hns h1 L sent gone hO i hi hi2 vs _ ?_
      rw [← hk1]
      rfl)
    unfold t4b at hb
    refine T.sat_mono ?_ hb
    have hμ : ns - ctr 5 (x4 first ns z sent.length gone.length (i : Nat)) = ns - i := rfl
    rintro ⟨e, xs2, H2⟩ hx
    cases e with
    | normal => rw [hμ]; exact hx
    | exit id => exact fun vs => hx vs
    | goto l => exact fun vs => hx vs
    | ret => exact fun vs => hx vs
    | panic ch => exact fun vs => hx vs
    | outgrown => exact fun vs => hx vs
  · refine .toDm [false, false, false, false, false, true] [] (Re.nil 3 36 4 (pkG []) (by decide) rfl (Re.nil 4 36 4 (pkG []) (by decide) rfl (.refl ⟨0, newL room first, [], [], ⟨Nat.zero_le _, ⟨okL_new hroom.1 hroom.2 h1 h2, ?_, fun j hj => by simp at hj, List.Perm.refl _⟩, Nat.le_refl _⟩, rfl, rfl⟩)))
    simp [newL]

end Go.Proofs.Ythckkoledhjmeaa.Ev
