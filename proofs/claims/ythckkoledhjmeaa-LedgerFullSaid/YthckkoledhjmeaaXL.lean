/-
  The abstract evaluator's trees: the document's rows for a ledger.
-/
import Derived.Test.YthckkoledhjmeaaXK
namespace Go.Proofs.Ythckkoledhjmeaa.Ev
open Go

def e22 : List (Nat × Ent) := [(22, .body oN 0), (10, .summ s10), (12, .summ s12), (14, .summ s14), (16, .summ s16), (17, .summ s17), (20, .body oN 0), (21, .body o21 0)]

noncomputable def t22  : T (AV × Heap) := callT Try.prog (entL e22) 2 22 [] [] fun r H' => .ret (r, H')

theorem t22_eq  : t22  =
    T.ite false T.fail
      (T.need
        { room := (newL 2 7).room, first := (newL 2 7).first, next := (newL 2 7).next, last := (newL 2 7).last, es := [] :
            LSt }.Ok
        (T.need
          (sendL
              { room := (newL 2 7).room, first := (newL 2 7).first, next := (newL 2 7).next, last := (newL 2 7).last,
                es := [] : LSt }
              0 100 5).Ok
          (T.need
            { room := 2, first := 7, next := 9, last := 6,
                es :=
                  [{ seq := 7, mi := 0, size := 100, sent := 5 : Pkt },
                    { seq := 8, mi := 0, size := 200, sent := 6 : Pkt }] :
                LSt }.Ok
            (T.need
              { room := 2, first := 7, next := 9, last := 6, es := [{ seq := 7, mi := 0, size := 100, sent := 5 : Pkt }] :
                  LSt }.Ok
              (T.need
                ({ room := 2, first := 7, next := 10, last := 6,
                      es :=
                        [{ seq := 7, mi := 0, size := 100, sent := 5 : Pkt },
                          { seq := 9, mi := 1, size := 1, sent := 6 : Pkt }] :
                      LSt }.Ok ∧
                  I64 15 ∧ I64 10)
                (T.ite false (T.ret (AV.e (EV.s (SV.c (Value.bool false))), []))
                  (T.ite false (T.ret (AV.e (EV.s (SV.c (Value.bool false))), []))
                    (T.ite false (T.ret (AV.e (EV.s (SV.c (Value.bool false))), []))
                      (T.ite false (T.ret (AV.e (EV.s (SV.c (Value.bool false))), []))
                        (T.ite false (T.ret (AV.e (EV.s (SV.c (Value.bool false))), []))
                          (T.ite false (T.ret (AV.e (EV.s (SV.c (Value.bool false))), []))
                            (T.ite false (T.ret (AV.e (EV.s (SV.c (Value.bool false))), []))
                              (T.ite false (T.ret (AV.e (EV.s (SV.c (Value.bool false))), []))
                                (T.ite false (T.ret (AV.e (EV.s (SV.c (Value.bool false))), []))
                                  (T.ite false (T.ret (AV.e (EV.s (SV.c (Value.bool false))), []))
                                    (T.ite false (T.ret (AV.e (EV.s (SV.c (Value.bool false))), []))
                                      (T.need
                                        ((1 ≤ 1 ∧
                                            0 + 1 ≤
                                                (chunksOf (3 + 1) 1
                                                    [Value.int IntKind.u64 7, Value.int IntKind.i64 0,
                                                      Value.int IntKind.i64 100, Value.int IntKind.i64 5]).length ∧
                                              1 ≤ 1000000) ∧
                                          PkRow 1
                                              (pkG
                                                (expP
                                                  (sendL
                                                    (takeL
                                                      (takeL
                                                        (takeL
                                                          (sendL
                                                            (sendL
                                                              (sendL
                                                                { room := (newL 2 7).room, first := (newL 2 7).first,
                                                                  next := (newL 2 7).next, last := (newL 2 7).last,
                                                                  es := [] : LSt }
                                                                0 100 5)
                                                              0 200 6)
                                                            0 1 6)
                                                          8)
                                                        8)
                                                      9)
                                                    1 1 6)
                                                  15 10)) ∧
                                            PkRow
                                              (chunksOf (3 + 1) 1
                                                  [Value.int IntKind.u64 7, Value.int IntKind.i64 0,
                                                    Value.int IntKind.i64 100, Value.int IntKind.i64 5]).length
                                              fun j =>
                                              (chunksOf (3 + 1) 1
                                                    [Value.int IntKind.u64 7, Value.int IntKind.i64 0,
                                                      Value.int IntKind.i64 100, Value.int IntKind.i64 5]).getD
                                                j [])
                                        (T.ite true
                                          (T.ite true
                                            (T.ite true
                                              (T.ite true (T.ret (AV.e (EV.s (SV.c (Value.bool true))), []))
                                                (T.ret (AV.e (EV.s (SV.c (Value.bool false))), [])))
                                              (T.ret (AV.e (EV.s (SV.c (Value.bool false))), [])))
                                            (T.ret (AV.e (EV.s (SV.c (Value.bool false))), [])))
                                          (T.ret (AV.e (EV.s (SV.c (Value.bool false))), [])))))))))))))))))))) := by kernel_rfl


end Go.Proofs.Ythckkoledhjmeaa.Ev
