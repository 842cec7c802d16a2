/-
  The statement LedgerFull, told of the abstract evaluator's data: trees, and what they say.
-/
import Derived.Test.YthckkoledhjmeaaXN
import Derived.Test.YthckkoledhjmeaaL6

/-
  The abstract evaluator's trees: the statement LedgerFull.
-/
namespace Go.Proofs.Ythckkoledhjmeaa.Ev
open Go

def e5 : List (Nat × Ent) := [(5, .body oN 0), (10, .summ s10), (12, .summ s12), (14, .summ s14), (16, .summ s16), (17, .summ s17), (19, .summ s19), (20, .body oN 0), (21, .body o21 0), (22, .summ s22)]

noncomputable def t5 (room first which : Int) (ex : Bool) : T (AV × Heap) := callT Try.prog (entL e5) 2 5 [.d (.int .i64 room), .d (.int .u64 first), .d (.int .i64 which), .d (.bool ex)] [] fun r H' => .ret (r, H')

theorem t5_eq (room first which : Int) (ex : Bool) : t5 room first which ex =
    T.ite (newB room) (T.ret (AV.e (EV.s (SV.c (Value.bool true))), []))
      (T.ite (decide (room > 300)) (T.ret (AV.e (EV.s (SV.c (Value.bool true))), []))
        (T.ite (decide (room < 1)) (T.ret (AV.e (EV.s (SV.c (Value.bool true))), []))
          (T.ite (decide (first > 1000000)) (T.ret (AV.e (EV.s (SV.c (Value.bool true))), []))
            (T.code 0 (loopAt Try.prog 5 0).loop
              {
                fr :=
                  [AV.e (EV.s (SV.d (Value.int IntKind.i64 room))), AV.e (EV.s (SV.d (Value.int IntKind.u64 first))),
                    AV.e (EV.s (SV.d (Value.int IntKind.i64 which))), AV.e (EV.s (SV.d (Value.bool ex))), AV.tup [],
                    AV.tup [], AV.tup [], AV.tup [], AV.e (EV.s (SV.c (Value.bool false))), AV.e (EV.s (SV.ptr 0 0)),
                    AV.e (EV.s (SV.c (Value.int IntKind.i64 0))), AV.e (EV.s (SV.c (Value.int IntKind.i64 0))), AV.tup [],
                    AV.tup [], AV.tup [], AV.tup [], AV.tup [], AV.tup [], AV.tup [], AV.tup [], AV.tup [], AV.tup [],
                    AV.tup [EV.s (SV.ptr 0 0), EV.s (SV.c (Value.int IntKind.i64 0))],
                    AV.e (EV.s (SV.d (Value.int IntKind.i64 room))), AV.e (EV.s (SV.d (Value.int IntKind.u64 first))),
                    AV.tup [EV.s (SV.ptr 0 0), EV.s (SV.c (Value.int IntKind.i64 0))], AV.e (EV.s (SV.ptr 0 0)),
                    AV.e (EV.s (SV.c (Value.int IntKind.i64 0))), AV.e (EV.s (SV.c (Value.int IntKind.i64 0))),
                    AV.e (EV.s (SV.c (Value.bool false))), AV.e (EV.s (SV.c (Value.bool false))),
                    AV.e (EV.s (SV.d (Value.int IntKind.i64 room))), AV.e (EV.s (SV.c (Value.bool false))),
                    AV.e (EV.s (SV.c (Value.bool false))), AV.e (EV.s (SV.c (Value.bool false))),
                    AV.e (EV.s (SV.d (Value.int IntKind.i64 room))), AV.e (EV.s (SV.c (Value.bool false))),
                    AV.e (EV.s (SV.c (Value.bool false))), AV.e (EV.s (SV.c (Value.bool false))),
                    AV.e (EV.s (SV.d (Value.int IntKind.u64 first))), AV.e (EV.s (SV.c (Value.bool false))),
                    AV.e (EV.s (SV.c (Value.bool false))), AV.e (EV.s (SV.c (Value.bool false))), AV.e (EV.s (SV.ptr 0 0)),
                    AV.e (EV.s (SV.c (Value.bool false))), AV.e (EV.s (SV.c (Value.bool false))), AV.tup [], AV.tup [],
                    AV.tup [], AV.tup [], AV.tup [], AV.tup [], AV.tup [], AV.tup [], AV.tup [], AV.tup [], AV.tup [],
                    AV.tup [], AV.tup [], AV.tup [], AV.tup [], AV.tup [], AV.tup [], AV.tup [], AV.tup [], AV.tup [],
                    AV.tup [], AV.tup [], AV.tup [], AV.tup [], AV.tup [], AV.tup [], AV.tup [], AV.tup [], AV.tup [],
                    AV.tup [], AV.tup [], AV.tup [], AV.tup [], AV.tup [], AV.tup [], AV.tup [], AV.tup [], AV.tup [],
                    AV.tup [], AV.tup [], AV.tup [], AV.tup [], AV.tup [], AV.tup [], AV.tup [], AV.tup [], AV.tup [],
                    AV.tup [], AV.tup [], AV.tup [], AV.tup [], AV.tup [], AV.tup [], AV.tup [], AV.tup [], AV.tup [],
                    AV.tup [], AV.tup [], AV.tup [], AV.tup [], AV.tup [], AV.tup [], AV.tup [], AV.tup [], AV.tup [],
                    AV.tup [], AV.tup [], AV.tup [], AV.tup [], AV.tup [], AV.tup [], AV.tup [], AV.tup [], AV.tup [],
                    AV.tup [], AV.tup [], AV.tup [], AV.tup [], AV.tup [], AV.tup [], AV.tup [], AV.tup [], AV.tup [],
                    AV.tup [], AV.tup [], AV.tup [], AV.tup [], AV.tup [], AV.tup [], AV.tup [], AV.tup [], AV.tup [],
                    AV.tup [], AV.tup [], AV.tup [], AV.tup [], AV.tup [], AV.tup [], AV.tup [], AV.tup [], AV.tup [],
                    AV.tup [], AV.tup [], AV.tup [], AV.tup [], AV.tup [], AV.tup [], AV.tup [], AV.tup [], AV.tup [],
                    AV.tup [], AV.tup [], AV.tup [], AV.tup [], AV.tup [], AV.tup [], AV.tup [], AV.tup [], AV.tup [],
                    AV.tup []],
                H :=
                  [AB.cells 86
                      [SV.d (Value.int IntKind.i64 (newL room first).room),
                        SV.d (Value.int IntKind.u64 (newL room first).first),
                        SV.d (Value.int IntKind.u64 (newL room first).next), SV.d (Value.int IntKind.i64 0), SV.mp 1],
                    AB.pm []] :
                St }
              (T.go [false, false, false, false] (t5 room first which ex)).kont)))) := by kernel_rfl


def H5 (L : LSt) : Heap := [.cells 86 (lc L 1), .pm L.es]
def x5 (room first which : Int) (ex : Bool) (i : Int) : List AV := [.d (.int .i64 room), .d (.int .u64 first), .d (.int .i64 which), .d (.bool ex), .e (.s (.ptr 0 0)), .d (.int .i64 i)]

noncomputable def t5b (room first which : Int) (ex : Bool) (L : LSt) (i : Int) (vs : Nat → Value) : T (Exit × List AV × Heap) := bodyT Try.prog e5 1 oN 0 (loopAt Try.prog 5 0) [0, 1, 2, 3, 9, 11] 166 (x5 room first which ex i) (H5 L) vs

theorem t5b_eq (room first which : Int) (ex : Bool) (L : LSt) (i : Int) (vs : Nat → Value) : t5b room first which ex L i vs =
    T.ite (decide (i < room))
      (T.need L.Ok
        (T.ite (sendE L i (IntKind.i64.wrap (1 + i)) i != 0)
          (T.ret
            (Exit.ret,
              [AV.e (EV.s (SV.d (Value.int IntKind.i64 room))), AV.e (EV.s (SV.d (Value.int IntKind.u64 first))),
                AV.e (EV.s (SV.d (Value.int IntKind.i64 which))), AV.e (EV.s (SV.d (Value.bool ex))),
                AV.e (EV.s (SV.ptr 0 0)), AV.e (EV.s (SV.d (Value.int IntKind.i64 i)))],
              [AB.cells 86
                  [SV.d (Value.int IntKind.i64 (sendL L i (IntKind.i64.wrap (1 + i)) i).room),
                    SV.d (Value.int IntKind.u64 (sendL L i (IntKind.i64.wrap (1 + i)) i).first),
                    SV.d (Value.int IntKind.u64 (sendL L i (IntKind.i64.wrap (1 + i)) i).next),
                    SV.d (Value.int IntKind.i64 (sendL L i (IntKind.i64.wrap (1 + i)) i).last), SV.mp 1],
                AB.pm (sendL L i (IntKind.i64.wrap (1 + i)) i).es]))
          (T.ite (sendN L i (IntKind.i64.wrap (1 + i)) i != IntKind.u64.wrap (first + IntKind.u64.wrap i))
            (T.ret
              (Exit.ret,
                [AV.e (EV.s (SV.d (Value.int IntKind.i64 room))), AV.e (EV.s (SV.d (Value.int IntKind.u64 first))),
                  AV.e (EV.s (SV.d (Value.int IntKind.i64 which))), AV.e (EV.s (SV.d (Value.bool ex))),
                  AV.e (EV.s (SV.ptr 0 0)), AV.e (EV.s (SV.d (Value.int IntKind.i64 i)))],
                [AB.cells 86
                    [SV.d (Value.int IntKind.i64 (sendL L i (IntKind.i64.wrap (1 + i)) i).room),
                      SV.d (Value.int IntKind.u64 (sendL L i (IntKind.i64.wrap (1 + i)) i).first),
                      SV.d (Value.int IntKind.u64 (sendL L i (IntKind.i64.wrap (1 + i)) i).next),
                      SV.d (Value.int IntKind.i64 (sendL L i (IntKind.i64.wrap (1 + i)) i).last), SV.mp 1],
                  AB.pm (sendL L i (IntKind.i64.wrap (1 + i)) i).es]))
            (T.ret
              (Exit.normal,
                [AV.e (EV.s (SV.d (Value.int IntKind.i64 room))), AV.e (EV.s (SV.d (Value.int IntKind.u64 first))),
                  AV.e (EV.s (SV.d (Value.int IntKind.i64 which))), AV.e (EV.s (SV.d (Value.bool ex))),
                  AV.e (EV.s (SV.ptr 0 0)), AV.e (EV.s (SV.d (Value.int IntKind.i64 (IntKind.i64.wrap (i + 1)))))],
                [AB.cells 86
                    [SV.d (Value.int IntKind.i64 (sendL L i (IntKind.i64.wrap (1 + i)) i).room),
                      SV.d (Value.int IntKind.u64 (sendL L i (IntKind.i64.wrap (1 + i)) i).first),
                      SV.d (Value.int IntKind.u64 (sendL L i (IntKind.i64.wrap (1 + i)) i).next),
                      SV.d (Value.int IntKind.i64 (sendL L i (IntKind.i64.wrap (1 + i)) i).last), SV.mp 1],
                  AB.pm (sendL L i (IntKind.i64.wrap (1 + i)) i).es])))))
      (T.ret
        (Exit.exit 0,
          [AV.e (EV.s (SV.d (Value.int IntKind.i64 room))), AV.e (EV.s (SV.d (Value.int IntKind.u64 first))),
            AV.e (EV.s (SV.d (Value.int IntKind.i64 which))), AV.e (EV.s (SV.d (Value.bool ex))), AV.e (EV.s (SV.ptr 0 0)),
            AV.e (EV.s (SV.d (Value.int IntKind.i64 i)))],
          [AB.cells 86
              [SV.d (Value.int IntKind.i64 L.room), SV.d (Value.int IntKind.u64 L.first),
                SV.d (Value.int IntKind.u64 L.next), SV.d (Value.int IntKind.i64 L.last), SV.mp 1],
            AB.pm L.es])) := by kernel_rfl


noncomputable def t5k (room first which : Int) (ex : Bool) (L : LSt) (i : Int) (vs : Nat → Value) : T (AV × Heap) := ((t5 room first which ex).go [false, false, false, false]).kont (.exit 0) ⟨fat [0, 1, 2, 3, 9, 11] vs (x5 room first which ex i) 166 0, H5 L⟩

theorem t5k_eq (room first which : Int) (ex : Bool) (L : LSt) (i : Int) (vs : Nat → Value) : t5k room first which ex L i vs =
    T.need L.Ok
      (T.need L.Ok
        (T.ite (sendE L 0 1 room != 2) (T.ret (AV.e (EV.s (SV.c (Value.bool false))), []))
          (T.ite (IntKind.i64.wrap ((sendL L 0 1 room).room - (↑(sendL L 0 1 room).es.length : Int)) != 0)
            (T.ret (AV.e (EV.s (SV.c (Value.bool false))), []))
            (T.ite ((sendL L 0 1 room).next != IntKind.u64.wrap (first + IntKind.u64.wrap room))
              (T.ret (AV.e (EV.s (SV.c (Value.bool false))), []))
              (T.need (sendL L 0 1 room).Ok
                (T.need
                  ((0 + L.es.length ≤ L.es.length ∧
                      0 + (sendL L 0 1 room).es.length ≤ (sendL L 0 1 room).es.length ∧ L.es.length ≤ most) ∧
                    PkRow L.es.length (pkG L.es) ∧ PkRow (sendL L 0 1 room).es.length (pkG (sendL L 0 1 room).es))
                  (T.ite
                    (samePk L.es.length (fun x => decPkt (pkG L.es (0 + x))) (sendL L 0 1 room).es.length fun x =>
                      decPkt (pkG (sendL L 0 1 room).es (0 + x)))
                    (T.ite ((↑L.es.length : Int) != room) (T.ret (AV.e (EV.s (SV.c (Value.bool false))), []))
                      (T.ite ex
                        (T.need ((sendL L 0 1 room).Ok ∧ I64 0 ∧ I64 0)
                          (T.ite ((↑(expP (sendL L 0 1 room) 0 0).length : Int) != 1)
                            (T.ret (AV.e (EV.s (SV.c (Value.bool false))), []))
                            (T.need (expL (sendL L 0 1 room) 0 0).Ok
                              (T.ite (sendE (expL (sendL L 0 1 room) 0 0) 9 9 room == 0)
                                (T.ite
                                  (sendN (expL (sendL L 0 1 room) 0 0) 9 9 room ==
                                    IntKind.u64.wrap (first + IntKind.u64.wrap room))
                                  (T.ite
                                    (IntKind.i64.wrap
                                        ((sendL (expL (sendL L 0 1 room) 0 0) 9 9 room).room -
                                          (↑(sendL (expL (sendL L 0 1 room) 0 0) 9 9 room).es.length : Int)) ==
                                      0)
                                    (T.ret (AV.e (EV.s (SV.c (Value.bool true))), []))
                                    (T.ret (AV.e (EV.s (SV.c (Value.bool false))), [])))
                                  (T.ret (AV.e (EV.s (SV.c (Value.bool false))), [])))
                                (T.ret (AV.e (EV.s (SV.c (Value.bool false))), []))))))
                        (T.ite
                          (takeE (sendL L 0 1 room)
                              (IntKind.u64.wrap
                                (first +
                                  IntKind.u64.wrap
                                    (if false = true then
                                      if
                                          IntKind.i64.wrap (room - 1) >
                                            if true = true then if 0 > which then 0 else which
                                            else if 0 < which then 0 else which then
                                        IntKind.i64.wrap (room - 1)
                                      else
                                        if true = true then if 0 > which then 0 else which
                                        else if 0 < which then 0 else which
                                    else
                                      if
                                          IntKind.i64.wrap (room - 1) <
                                            if true = true then if 0 > which then 0 else which
                                            else if 0 < which then 0 else which then
                                        IntKind.i64.wrap (room - 1)
                                      else
                                        if true = true then if 0 > which then 0 else which
                                        else if 0 < which then 0 else which))) !=
                            0)
                          (T.ret (AV.e (EV.s (SV.c (Value.bool false))), []))
                          (T.ite
                            ((takeP (sendL L 0 1 room)
                                  (IntKind.u64.wrap
                                    (first +
                                      IntKind.u64.wrap
                                        (if false = true then
                                          if
                                              IntKind.i64.wrap (room - 1) >
                                                if true = true then if 0 > which then 0 else which
                                                else if 0 < which then 0 else which then
                                            IntKind.i64.wrap (room - 1)
                                          else
                                            if true = true then if 0 > which then 0 else which
                                            else if 0 < which then 0 else which
                                        else
                                          if
                                              IntKind.i64.wrap (room - 1) <
                                                if true = true then if 0 > which then 0 else which
                                                else if 0 < which then 0 else which then
                                            IntKind.i64.wrap (room - 1)
                                          else
                                            if true = true then if 0 > which then 0 else which
                                            else if 0 < which then 0 else which)))).size !=
                              IntKind.i64.wrap
                                (1 +
                                  if false = true then
                                    if
                                        IntKind.i64.wrap (room - 1) >
                                          if true = true then if 0 > which then 0 else which
                                          else if 0 < which then 0 else which then
                                      IntKind.i64.wrap (room - 1)
                                    else
                                      if true = true then if 0 > which then 0 else which else if 0 < which then 0 else which
                                  else
                                    if
                                        IntKind.i64.wrap (room - 1) <
                                          if true = true then if 0 > which then 0 else which
                                          else if 0 < which then 0 else which then
                                      IntKind.i64.wrap (room - 1)
                                    else
                                      if true = true then if 0 > which then 0 else which
                                      else if 0 < which then 0 else which))
                            (T.ret (AV.e (EV.s (SV.c (Value.bool false))), []))
                            (T.ite
                              ((takeP (sendL L 0 1 room)
                                    (IntKind.u64.wrap
                                      (first +
                                        IntKind.u64.wrap
                                          (if false = true then
                                            if
                                                IntKind.i64.wrap (room - 1) >
                                                  if true = true then if 0 > which then 0 else which
                                                  else if 0 < which then 0 else which then
                                              IntKind.i64.wrap (room - 1)
                                            else
                                              if true = true then if 0 > which then 0 else which
                                              else if 0 < which then 0 else which
                                          else
                                            if
                                                IntKind.i64.wrap (room - 1) <
                                                  if true = true then if 0 > which then 0 else which
                                                  else if 0 < which then 0 else which then
                                              IntKind.i64.wrap (room - 1)
                                            else
                                              if true = true then if 0 > which then 0 else which
                                              else if 0 < which then 0 else which)))).mi !=
                                if false = true then
                                  if
                                      IntKind.i64.wrap (room - 1) >
                                        if true = true then if 0 > which then 0 else which
                                        else if 0 < which then 0 else which then
                                    IntKind.i64.wrap (room - 1)
                                  else
                                    if true = true then if 0 > which then 0 else which else if 0 < which then 0 else which
                                else
                                  if
                                      IntKind.i64.wrap (room - 1) <
                                        if true = true then if 0 > which then 0 else which
                                        else if 0 < which then 0 else which then
                                    IntKind.i64.wrap (room - 1)
                                  else
                                    if true = true then if 0 > which then 0 else which else if 0 < which then 0 else which)
                              (T.ret (AV.e (EV.s (SV.c (Value.bool false))), []))
                              (T.need
                                (takeL (sendL L 0 1 room)
                                    (IntKind.u64.wrap
                                      (first +
                                        IntKind.u64.wrap
                                          (if false = true then
                                            if
                                                IntKind.i64.wrap (room - 1) >
                                                  if true = true then if 0 > which then 0 else which
                                                  else if 0 < which then 0 else which then
                                              IntKind.i64.wrap (room - 1)
                                            else
                                              if true = true then if 0 > which then 0 else which
                                              else if 0 < which then 0 else which
                                          else
                                            if
                                                IntKind.i64.wrap (room - 1) <
                                                  if true = true then if 0 > which then 0 else which
                                                  else if 0 < which then 0 else which then
                                              IntKind.i64.wrap (room - 1)
                                            else
                                              if true = true then if 0 > which then 0 else which
                                              else if 0 < which then 0 else which)))).Ok
                                (T.ite
                                  (sendE
                                      (takeL (sendL L 0 1 room)
                                        (IntKind.u64.wrap
                                          (first +
                                            IntKind.u64.wrap
                                              (if false = true then
                                                if
                                                    IntKind.i64.wrap (room - 1) >
                                                      if true = true then if 0 > which then 0 else which
                                                      else if 0 < which then 0 else which then
                                                  IntKind.i64.wrap (room - 1)
                                                else
                                                  if true = true then if 0 > which then 0 else which
                                                  else if 0 < which then 0 else which
                                              else
                                                if
                                                    IntKind.i64.wrap (room - 1) <
                                                      if true = true then if 0 > which then 0 else which
                                                      else if 0 < which then 0 else which then
                                                  IntKind.i64.wrap (room - 1)
                                                else
                                                  if true = true then if 0 > which then 0 else which
                                                  else if 0 < which then 0 else which))))
                                      9 9 room ==
                                    0)
                                  (T.ite
                                    (sendN
                                        (takeL (sendL L 0 1 room)
                                          (IntKind.u64.wrap
                                            (first +
                                              IntKind.u64.wrap
                                                (if false = true then
                                                  if
                                                      IntKind.i64.wrap (room - 1) >
                                                        if true = true then if 0 > which then 0 else which
                                                        else if 0 < which then 0 else which then
                                                    IntKind.i64.wrap (room - 1)
                                                  else
                                                    if true = true then if 0 > which then 0 else which
                                                    else if 0 < which then 0 else which
                                                else
                                                  if
                                                      IntKind.i64.wrap (room - 1) <
                                                        if true = true then if 0 > which then 0 else which
                                                        else if 0 < which then 0 else which then
                                                    IntKind.i64.wrap (room - 1)
                                                  else
                                                    if true = true then if 0 > which then 0 else which
                                                    else if 0 < which then 0 else which))))
                                        9 9 room ==
                                      IntKind.u64.wrap (first + IntKind.u64.wrap room))
                                    (T.ite
                                      (IntKind.i64.wrap
                                          ((sendL
                                                (takeL (sendL L 0 1 room)
                                                  (IntKind.u64.wrap
                                                    (first +
                                                      IntKind.u64.wrap
                                                        (if false = true then
                                                          if
                                                              IntKind.i64.wrap (room - 1) >
                                                                if true = true then if 0 > which then 0 else which
                                                                else if 0 < which then 0 else which then
                                                            IntKind.i64.wrap (room - 1)
                                                          else
                                                            if true = true then if 0 > which then 0 else which
                                                            else if 0 < which then 0 else which
                                                        else
                                                          if
                                                              IntKind.i64.wrap (room - 1) <
                                                                if true = true then if 0 > which then 0 else which
                                                                else if 0 < which then 0 else which then
                                                            IntKind.i64.wrap (room - 1)
                                                          else
                                                            if true = true then if 0 > which then 0 else which
                                                            else if 0 < which then 0 else which))))
                                                9 9 room).room -
                                            (↑(sendL
                                                      (takeL (sendL L 0 1 room)
                                                        (IntKind.u64.wrap
                                                          (first +
                                                            IntKind.u64.wrap
                                                              (if false = true then
                                                                if
                                                                    IntKind.i64.wrap (room - 1) >
                                                                      if true = true then if 0 > which then 0 else which
                                                                      else if 0 < which then 0 else which then
                                                                  IntKind.i64.wrap (room - 1)
                                                                else
                                                                  if true = true then if 0 > which then 0 else which
                                                                  else if 0 < which then 0 else which
                                                              else
                                                                if
                                                                    IntKind.i64.wrap (room - 1) <
                                                                      if true = true then if 0 > which then 0 else which
                                                                      else if 0 < which then 0 else which then
                                                                  IntKind.i64.wrap (room - 1)
                                                                else
                                                                  if true = true then if 0 > which then 0 else which
                                                                  else if 0 < which then 0 else which))))
                                                      9 9 room).es.length :
                                              Int)) ==
                                        0)
                                      (T.ret (AV.e (EV.s (SV.c (Value.bool true))), []))
                                      (T.ret (AV.e (EV.s (SV.c (Value.bool false))), [])))
                                    (T.ret (AV.e (EV.s (SV.c (Value.bool false))), [])))
                                  (T.ret (AV.e (EV.s (SV.c (Value.bool false))), [])))))))))
                    (T.ret (AV.e (EV.s (SV.c (Value.bool false))), []))))))))) := by kernel_rfl


theorem kl5 : codeB oN (loopAt Try.prog 5 0) = true := by kernel_rfl

end Go.Proofs.Ythckkoledhjmeaa.Ev

/-
  A ledger that is full, in plain words; the statement LedgerFull, told of the abstract evaluator's data.
-/
namespace Go.Proofs.Ythckkoledhjmeaa.Ev
open Go

def fullP (first : Int) (i : Nat) : Pkt := ⟨first + i, i, 1 + i, i⟩
def fullL (room first : Int) (n : Nat) : LSt := ⟨room, first, first + n, if n = 0 then 0 else (n : Int) - 1, (List.range n).map (fullP first)⟩

section
variable {room first : Int} {n : Nat}

theorem full_len : (fullL room first n).es.length = n := by simp [fullL]

theorem full_send (h1 : 1 ≤ room) (h2 : room ≤ 300) (h3 : 0 ≤ first) (h4 : first ≤ 1000000) (hn : (n : Int) < room) :
    sendE (fullL room first n) n (1 + n) n = 0 ∧ sendL (fullL room first n) n (1 + n) n = fullL room first (n + 1) ∧ sendN (fullL room first n) n (1 + n) n = first + n := by
  have hl := full_len (room := room) (first := first) (n := n)
  have hla : (fullL room first n).last ≤ n := by simp only [fullL]; split <;> omega
  have hE : sendE (fullL room first n) n (1 + n) n = 0 := by
    unfold sendE
    rw [if_neg (by omega), if_neg (by omega), if_neg (by omega), if_neg (by omega), if_neg (by omega), if_neg (by rw [hl]; simp only [fullL]; omega), if_neg (by simp only [fullL]; omega)]
  refine ⟨hE, ?_, by simp only [sendN, hE, if_true]; rfl⟩
  unfold sendL
  rw [if_pos hE]
  simp only [fullL, List.range_succ, List.map_append, List.map_cons, List.map_nil, fullP, LSt.mk.injEq, true_and]
  refine ⟨by omega, ?_, trivial⟩
  rw [if_neg (by omega)]
  omega

theorem full_ok (h1 : 1 ≤ room) (h2 : room ≤ 300) (h3 : 0 ≤ first) (h4 : first ≤ 1000000) : ∀ n : Nat, (n : Int) ≤ room → (fullL room first n).Ok
  | 0, _ => by
    have : fullL room first 0 = newL room first := by simp [fullL, newL]
    rw [this]
    exact okL_new h1 (by omega) h3 (by omega)
  | n + 1, h => by
    have := full_send (n := n) h1 h2 h3 h4 (by omega)
    rw [← this.2.1]
    exact okL_send (full_ok h1 h2 h3 h4 n (by omega)) _ _ _

/-- A full one refuses. -/
theorem full_refuses (h1 : 1 ≤ room) (h2 : room ≤ 300) (hn : (n : Int) = room) : sendE (fullL room first n) 0 1 room = 2 ∧ sendL (fullL room first n) 0 1 room = fullL room first n := by
  have hl := full_len (room := room) (first := first) (n := n)
  have hla : (fullL room first n).last ≤ n := by simp only [fullL]; split <;> omega
  have hE : sendE (fullL room first n) 0 1 room = 2 := by
    unfold sendE
    rw [if_neg (by omega), if_neg (by omega), if_neg (by omega), if_neg (by omega), if_neg (by omega), if_pos (by rw [hl]; exact hn)]
  exact ⟨hE, by unfold sendL; rw [if_neg (by omega)]⟩

theorem full_exp (hn : 0 < n) : expP (fullL room first n) 0 0 = [fullP first 0] := by
  obtain ⟨m, rfl⟩ : ∃ m, n = m + 1 := ⟨n - 1, by omega⟩
  unfold expP
  simp only [fullL, List.range_succ_eq_map, List.map_cons, List.map_map, List.filter_cons]
  have h0 : overX 0 0 (fullP first 0) = true := by simp [overX, fullP]
  rw [h0, if_pos rfl]
  congr 1
  rw [List.filter_eq_nil_iff]
  intro p hp
  obtain ⟨i, _, rfl⟩ := List.mem_map.1 hp
  rw [overX, decide_eq_true_eq]
  simp only [Function.comp_apply, fullP, Nat.succ_eq_add_one]
  omega

/-- One more is sent, where there is room. -/
theorem full_more (L : LSt) (h1 : 1 ≤ room) (h2 : room ≤ 300) (h3 : 0 ≤ first) (h4 : first ≤ 1000000) (hn : (n : Int) = room) (hr : L.room = room) (hx : L.next = first + n) (hl : L.last = (n : Int) - 1) (he : (L.es.length : Int) = room - 1) :
    sendE L 9 9 room = 0 ∧ sendN L 9 9 room = first + room ∧ (sendL L 9 9 room).room = room ∧ ((sendL L 9 9 room).es.length : Int) = room := by
  have hE : sendE L 9 9 room = 0 := by
    unfold sendE
    rw [if_neg (by omega), if_neg (by omega), if_neg (by omega), if_neg (by omega), if_neg (by omega), if_neg (by omega), if_neg (by omega)]
  refine ⟨hE, by simp only [sendN, hE, if_true]; omega, by rw [sendL_room, hr], ?_⟩
  simp only [sendL, hE, if_true, List.length_append, List.length_singleton]
  omega

theorem full_get {i : Nat} (hi : i < n) : findP (fullL room first n).es (first + i) = fullP first i ∧ hasP (fullL room first n).es (first + i) = true := by
  have hm : fullP first i ∈ (fullL room first n).es := List.mem_map.2 ⟨i, List.mem_range.2 hi, rfl⟩
  have hh : hasP (fullL room first n).es (first + i) = true := List.any_eq_true.2 ⟨_, hm, by simp [fullP]⟩
  refine ⟨?_, hh⟩
  unfold findP
  cases hf : (fullL room first n).es.find? (fun p => first + i == p.seq) with
  | none =>
    rw [List.find?_eq_none] at hf
    exact absurd (by simp [fullP]) (hf _ hm)
  | some p =>
    have h1 := List.find?_some hf
    obtain ⟨j, _, rfl⟩ := List.mem_map.1 (List.mem_of_find?_eq_some hf)
    simp only [fullP, beq_iff_eq] at h1
    have : j = i := by omega
    rw [this]
    rfl

theorem full_take {i : Nat} (_ : 0 ≤ first) (hi : i < n) : takeE (fullL room first n) (first + i) = 0 ∧ takeP (fullL room first n) (first + i) = fullP first i ∧ ((takeL (fullL room first n) (first + i)).es.length : Int) = (n : Int) - 1 := by
  obtain ⟨g1, g2⟩ := full_get (room := room) (first := first) hi
  have hE : takeE (fullL room first n) (first + i) = 0 := by
    unfold takeE
    rw [if_neg (by simp only [fullL]; omega), if_neg (by simp only [fullL]; omega), g2]
    rfl
  refine ⟨hE, by simp only [takeP, hE, if_true, g1], ?_⟩
  simp only [takeL, hE, if_true, delP]
  obtain ⟨p, hp, hq⟩ := List.any_eq_true.1 g2
  rw [List.length_eraseP_of_mem hp hq, full_len]
  omega

end

theorem e5ok : EntsOk Try.prog e5 := ⟨k5, s10ok, s12ok, s14ok, s16ok, s17ok, s19ok, k20, k21, s22ok, trivial⟩

theorem wrap_u {x : Int} (h1 : 0 ≤ x) (h2 : x ≤ 2000000) : IntKind.u64.wrap x = x := wrapU h1 (by omega)

/-- Which one is taken. -/
theorem which_at {room which : Int} (h1 : 1 ≤ room) (h2 : room ≤ 300) : ∃ i : Nat, (i : Int) < room ∧
    (if false = true then if IntKind.i64.wrap (room - 1) > if true = true then if 0 > which then 0 else which else if 0 < which then 0 else which then IntKind.i64.wrap (room - 1) else if true = true then if 0 > which then 0 else which else if 0 < which then 0 else which
      else if IntKind.i64.wrap (room - 1) < if true = true then if 0 > which then 0 else which else if 0 < which then 0 else which then IntKind.i64.wrap (room - 1) else if true = true then if 0 > which then 0 else which else if 0 < which then 0 else which) = (i : Int) := by
  have hw : IntKind.i64.wrap (room - 1) = room - 1 := wrap64 (by unfold I64; omega)
  simp only [Bool.false_eq_true, if_false, if_true, hw]
  refine ⟨(if room - 1 < (if 0 > which then 0 else which) then room - 1 else if 0 > which then 0 else which).toNat, ?_, ?_⟩ <;>
  · split <;> split <;> omega

set_option maxRecDepth 100000 in
set_option maxHeartbeats 1000000 in
theorem full_end (room first which : Int) (ex : Bool) (h1 : 1 ≤ room) (h2 : room ≤ 300) (h3 : 0 ≤ first) (h4 : first ≤ 1000000) (n : Nat) (hn : (n : Int) = room) (i : Int) (vs : Nat → Value)
    (t : T (AV × Heap)) (ht : t = t5k room first which ex (fullL room first n) i vs) : t.sat Try.prog fun x => x.1 = .c (.bool true) := by
  rw [ht, t5k_eq]
  clear ht
  obtain ⟨f1, f2⟩ := full_refuses (first := first) h1 h2 hn
  have hO := full_ok h1 h2 h3 h4 n (by omega)
  have hl := full_len (room := room) (first := first) (n := n)
  have hw1 : IntKind.u64.wrap room = room := wrap_u (by omega) (by omega)
  have hw2 : IntKind.u64.wrap (first + room) = first + room := wrap_u (by omega) (by omega)
  obtain ⟨w, hw, hwe⟩ := which_at (room := room) (which := which) h1 h2
  rw [hwe]
  clear hwe
  have hw3 : IntKind.u64.wrap (w : Int) = w := wrap_u (by omega) (by omega)
  have hw4 : IntKind.u64.wrap (first + w) = first + w := wrap_u (by omega) (by omega)
  have hw5 : IntKind.i64.wrap (1 + (w : Int)) = 1 + w := wrap64 (by unfold I64; omega)
  have hw6 : IntKind.i64.wrap (room - n) = 0 := by rw [hn]; simp; kernel_rfl
  obtain ⟨g1, g2, g3⟩ := full_take (room := room) (n := n) h3 (show w < n by omega)
  have hx := full_exp (room := room) (first := first) (show 0 < n by omega)
  have hx2 := exp_left (fullL room first n) 0 0
  rw [hx, hl] at hx2
  simp only [List.length_singleton] at hx2
  obtain ⟨m1, m2, m3, m4⟩ := full_more (n := n) (expL (fullL room first n) 0 0) h1 h2 h3 h4 hn rfl rfl (by simp only [expL, fullL]; rw [if_neg (by omega)]) (by omega)
  obtain ⟨l1, l2, l3, l4⟩ := full_more (n := n) (takeL (fullL room first n) (first + w)) h1 h2 h3 h4 hn (by rw [takeL_room]; rfl) (by unfold takeL; split <;> rfl) (by unfold takeL; split <;> (simp only [fullL]; rw [if_neg (by omega)])) (by omega)
  have hr : (fullL room first n).room = room := rfl
  have hnx : (fullL room first n).next = first + room := by rw [← hn]; rfl
  simp only [f1, f2, hr, hl, hw6, hnx, hw1, hw2, hw3, hw4, hw5, g1, g2, hx, m1, m2, m3, m4, l1, l2, l3, l4, T.sat, bne_self_eq_false, beq_self_eq_true, Bool.true_eq_false, Bool.false_eq_true, false_implies, true_implies, implies_true, true_and, and_true]
  have hsame : samePk n (fun x => decPkt (pkG (fullL room first n).es (0 + x))) n (fun x => decPkt (pkG (fullL room first n).es (0 + x))) = true := samePk_iff.2 ⟨rfl, fun _ _ => rfl⟩
  have hmost : n ≤ most := by unfold most; omega
  have hI : I64 0 := by unfold I64; omega
  have hz : (IntKind.i64.wrap (room - room) == 0) = true := by rw [Int.sub_self]; kernel_rfl
  have hnb : ((n : Int) != room) = false := by rw [hn]; simp
  have hs1 : ((fullP first w).size != 1 + (w : Int)) = false := by simp [fullP]
  have hs2 : ((fullP first w).mi != (w : Int)) = false := by simp [fullP]
  have hs3 : (([fullP first 0].length : Int) != 1) = false := by simp
  rw [hsame, hnb, hz, hs1, hs2, hs3]
  simp only [Bool.true_eq_false, Bool.false_eq_true, false_implies, true_implies, true_and, and_true]
  exact ⟨hO, hO, hO, ⟨⟨by omega, by omega, hmost⟩, pkRow_G _ _, pkRow_G _ _⟩, fun _ => ⟨⟨hO, hI, hI⟩, okL_exp hO 0 0⟩, fun _ => okL_take hO _⟩

set_option maxRecDepth 100000 in
theorem full5 (room first which : Int) (ex : Bool) (h3 : 0 ≤ first) :
    CallsA Try.prog 5 [.d (.int .i64 room), .d (.int .u64 first), .d (.int .i64 which), .d (.bool ex)] [] fun r _ => r = .c (.bool true) := by
  refine calls_of fine e5ok 2 5 _ _ ?_
  show (t5 room first which ex).sat _ _
  rw [t5_eq]
  generalize hk1 : (T.go [false, false, false, false] (t5 room first which ex)).kont = k1
  simp only [T.sat, decide_eq_true_eq, decide_eq_false_iff_not, implies_true, true_and]
  intro hr h2 h1 h4
  have h1 : 1 ≤ room := by omega
  have h2 : room ≤ 300 := by omega
  have h4 : first ≤ 1000000 := by omega
  have hn : ∀ (xs : List AV) (H : Heap), (∃ i : Nat, (i : Int) ≤ room ∧ xs = x5 room first which ex i ∧ H = H5 (fullL room first i)) → 0 ≤ H.length := fun _ _ _ => Nat.zero_le _
  refine code_loop fine e5ok 1 (live := [0, 1, 2, 3, 9, 11]) (N := 166) kl5 (fun xs H => ∃ i : Nat, (i : Int) ≤ room ∧ xs = x5 room first which ex i ∧ H = H5 (fullL room first i)) (fun xs _ => room.toNat - ctr 5 xs) hn ?_ rfl ?_
  · intro xs H vs hI
    cases hI with | intro i hI =>
    have hi := hI.1
    rw [hI.2.1, hI.2.2]
    clear hI
    have e := t5b_eq room first which ex (fullL room first i) i vs
    unfold t5b at e
    rw [e]
    refine ⟨fun hlt => ?_, fun hge => fun vs => ?_⟩
    · have hlt : (i : Int) < room := by simpa using hlt
      obtain ⟨s1, s2, s3⟩ := full_send h1 h2 h3 h4 hlt
      have hw1 : IntKind.i64.wrap (1 + (i : Int)) = 1 + i := wrap64 (by unfold I64; omega)
      have hw2 : IntKind.u64.wrap (i : Int) = i := wrap_u (by omega) (by omega)
      have hw3 : IntKind.u64.wrap (first + i) = first + i := wrap_u (by omega) (by omega)
      simp only [hw1, hw2, hw3, s1, s2, s3, T.sat, bne_self_eq_false, Bool.false_eq_true, false_implies, true_implies, true_and]
      refine ⟨full_ok h1 h2 h3 h4 i (by omega), .refl ⟨⟨i + 1, by omega, ?_, rfl⟩, ?_⟩⟩
      · rw [wrap_succ (by omega)]; rfl
      · simp only [ctr, List.getD_cons_succ, List.getD_cons_zero, asInt, Option.getD_some, x5]
        rw [wrap_succ (by omega)]
        omega
    · have hge : ¬ (i : Int) < room := by simpa using hge
      refine full_end room first which ex h1 h2 h3 h4 i (by omega) i vs _ ?_
      rw [← hk1]
      rfl
  · refine .toDm [false, false, false, false, false, true] [] (.refl ⟨0, by omega, rfl, ?_⟩)
    simp [H5, fullL, newL, lc]
    rfl

end Go.Proofs.Ythckkoledhjmeaa.Ev
