/-
  The abstract evaluator's trees: the statement LedgerFull.
-/
import Derived.Test.YthckkoledhjmeaaXN
namespace Go.Proofs.Ythckkoledhjmeaa.Ev
open Go

def e5 : List (Nat × Ent) := [(5, .body oN 0), (10, .summ s10), (12, .summ s12), (14, .summ s14), (16, .summ s16), (17, .summ s17), (19, .summ s19), (20, .body oN 0), (21, .body o21 0), (22, .summ s22)]

noncomputable def t5 (room first which : Int) (ex : Bool) : T (AV × Heap) := callT Try.prog (entL e5) 2 5 [.d (.int .i64 room), .d (.int .u64 first), .d (.int .i64 which), .d (.bool ex)] [] fun r H' => .ret (r, H')

theorem t5_eq (room first which : Int) (ex : Bool) : t5 room first which ex =
    T.ite (newB room) (T.ret (AV.e (EV.s (SV.c (Value.bool true))), []))
      (T.ite (decide (room > 300)) (T.ret (AV.e (EV.s (SV.c (Value.bool true))), []))
        (T.ite (decide (room < 1)) (T.ret (AV.e (EV.s (SV.c (Value.bool true))), []))
          (T.ite (decide (first > 1000000)) (T.ret (AV.e (EV.s (SV.c (Value.bool true))), []))
            (T.code 0 (loopAt Try.prog 5 0).loop
              {
                fr :=
                  [AV.e (EV.s (SV.d (Value.int IntKind.i64 room))), AV.e (EV.s (SV.d (Value.int IntKind.u64 first))),
                    AV.e (EV.s (SV.d (Value.int IntKind.i64 which))), AV.e (EV.s (SV.d (Value.bool ex))), AV.tup [],
                    AV.tup [], AV.tup [], AV.tup [], AV.e (EV.s (SV.c (Value.bool false))), AV.e (EV.s (SV.ptr 0 0)),
                    AV.e (EV.s (SV.c (Value.int IntKind.i64 0))), AV.e (EV.s (SV.c (Value.int IntKind.i64 0))), AV.tup [],
                    AV.tup [], AV.tup [], AV.tup [], AV.tup [], AV.tup [], AV.tup [], AV.tup [], AV.tup [], AV.tup [],
                    AV.tup [EV.s (SV.ptr 0 0), EV.s (SV.c (Value.int IntKind.i64 0))],
                    AV.e (EV.s (SV.d (Value.int IntKind.i64 room))), AV.e (EV.s (SV.d (Value.int IntKind.u64 first))),
                    AV.tup [EV.s (SV.ptr 0 0), EV.s (SV.c (Value.int IntKind.i64 0))], AV.e (EV.s (SV.ptr 0 0)),
                    AV.e (EV.s (SV.c (Value.int IntKind.i64 0))), AV.e (EV.s (SV.c (Value.int IntKind.i64 0))),
                    AV.e (EV.s (SV.c (Value.bool false))), AV.e (EV.s (SV.c (Value.bool false))),
                    AV.e (EV.s (SV.d (Value.int IntKind.i64 room))), AV.e (EV.s (SV.c (Value.bool false))),
                    AV.e (EV.s (SV.c (Value.bool false))), AV.e (EV.s (SV.c (Value.bool false))),
                    AV.e (EV.s (SV.d (Value.int IntKind.i64 room))), AV.e (EV.s (SV.c (Value.bool false))),
                    AV.e (EV.s (SV.c (Value.bool false))), AV.e (EV.s (SV.c (Value.bool false))),
                    AV.e (EV.s (SV.d (Value.int IntKind.u64 first))), AV.e (EV.s (SV.c (Value.bool false))),
                    AV.e (EV.s (SV.c (Value.bool false))), AV.e (EV.s (SV.c (Value.bool false))), AV.e (EV.s (SV.ptr 0 0)),
                    AV.e (EV.s (SV.c (Value.bool false))), AV.e (EV.s (SV.c (Value.bool false))), AV.tup [], AV.tup [],
                    AV.tup [], AV.tup [], AV.tup [], AV.tup [], AV.tup [], AV.tup [], AV.tup [], AV.tup [], AV.tup [],
                    AV.tup [], AV.tup [], AV.tup [], AV.tup [], AV.tup [], AV.tup [], AV.tup [], AV.tup [], AV.tup [],
                    AV.tup [], AV.tup [], AV.tup [], AV.tup [], AV.tup [], AV.tup [], AV.tup [], AV.tup [], AV.tup [],
                    AV.tup [], AV.tup [], AV.tup [], AV.tup [], AV.tup [], AV.tup [], AV.tup [], AV.tup [], AV.tup [],
                    AV.tup [], AV.tup [], AV.tup [], AV.tup [], AV.tup [], AV.tup [], AV.tup [], AV.tup [], AV.tup [],
                    AV.tup [], AV.tup [], AV.tup [], AV.tup [], AV.tup [], AV.tup [], AV.tup [], AV.tup [], AV.tup [],
                    AV.tup [], AV.tup [], AV.tup [], AV.tup [], AV.tup [], AV.tup [], AV.tup [], AV.tup [], AV.tup [],
                    AV.tup [], AV.tup [], AV.tup [], AV.tup [], AV.tup [], AV.tup [], AV.tup [], AV.tup [], AV.tup [],
                    AV.tup [], AV.tup [], AV.tup [], AV.tup [], AV.tup [], AV.tup [], AV.tup [], AV.tup [], AV.tup [],
                    AV.tup [], AV.tup [], AV.tup [], AV.tup [], AV.tup [], AV.tup [], AV.tup [], AV.tup [], AV.tup [],
                    AV.tup [], AV.tup [], AV.tup [], AV.tup [], AV.tup [], AV.tup [], AV.tup [], AV.tup [], AV.tup [],
                    AV.tup [], AV.tup [], AV.tup [], AV.tup [], AV.tup [], AV.tup [], AV.tup [], AV.tup [], AV.tup [],
                    AV.tup [], AV.tup [], AV.tup [], AV.tup [], AV.tup [], AV.tup [], AV.tup [], AV.tup [], AV.tup [],
                    AV.tup []],
                H :=
                  [AB.cells 86
                      [SV.d (Value.int IntKind.i64 (newL room first).room),
                        SV.d (Value.int IntKind.u64 (newL room first).first),
                        SV.d (Value.int IntKind.u64 (newL room first).next), SV.d (Value.int IntKind.i64 0), SV.mp 1],
                    AB.pm []] :
                St }
              (T.go [false, false, false, false] (t5 room first which ex)).kont)))) := by kernel_rfl


def H5 (L : LSt) : Heap := [.cells 86 (lc L 1), .pm L.es]
def x5 (room first which : Int) (ex : Bool) (i : Int) : List AV := [.d (.int .i64 room), .d (.int .u64 first), .d (.int .i64 which), .d (.bool ex), .e (.s (.ptr 0 0)), .d (.int .i64 i)]

noncomputable def t5b (room first which : Int) (ex : Bool) (L : LSt) (i : Int) (vs : Nat → Value) : T (Exit × List AV × Heap) := bodyT Try.prog e5 1 oN 0 (loopAt Try.prog 5 0) [0, 1, 2, 3, 9, 11] 166 (x5 room first which ex i) (H5 L) vs

theorem t5b_eq (room first which : Int) (ex : Bool) (L : LSt) (i : Int) (vs : Nat → Value) : t5b room first which ex L i vs =
    T.ite (decide (i < room))
      (T.need L.Ok
        (T.ite (sendE L i (IntKind.i64.wrap (1 + i)) i != 0)
          (T.ret
            (Exit.ret,
              [AV.e (EV.s (SV.d (Value.int IntKind.i64 room))), AV.e (EV.s (SV.d (Value.int IntKind.u64 first))),
                AV.e (EV.s (SV.d (Value.int IntKind.i64 which))), AV.e (EV.s (SV.d (Value.bool ex))),
                AV.e (EV.s (SV.ptr 0 0)), AV.e (EV.s (SV.d (Value.int IntKind.i64 i)))],
              [AB.cells 86
                  [SV.d (Value.int IntKind.i64 (sendL L i (IntKind.i64.wrap (1 + i)) i).room),
                    SV.d (Value.int IntKind.u64 (sendL L i (IntKind.i64.wrap (1 + i)) i).first),
                    SV.d (Value.int IntKind.u64 (sendL L i (IntKind.i64.wrap (1 + i)) i).next),
                    SV.d (Value.int IntKind.i64 (sendL L i (IntKind.i64.wrap (1 + i)) i).last), SV.mp 1],
                AB.pm (sendL L i (IntKind.i64.wrap (1 + i)) i).es]))
          (T.ite (sendN L i (IntKind.i64.wrap (1 + i)) i != IntKind.u64.wrap (first + IntKind.u64.wrap i))
            (T.ret
              (Exit.ret,
                [AV.e (EV.s (SV.d (Value.int IntKind.i64 room))), AV.e (EV.s (SV.d (Value.int IntKind.u64 first))),
                  AV.e (EV.s (SV.d (Value.int IntKind.i64 which))), AV.e (EV.s (SV.d (Value.bool ex))),
                  AV.e (EV.s (SV.ptr 0 0)), AV.e (EV.s (SV.d (Value.int IntKind.i64 i)))],
                [AB.cells 86
                    [SV.d (Value.int IntKind.i64 (sendL L i (IntKind.i64.wrap (1 + i)) i).room),
                      SV.d (Value.int IntKind.u64 (sendL L i (IntKind.i64.wrap (1 + i)) i).first),
                      SV.d (Value.int IntKind.u64 (sendL L i (IntKind.i64.wrap (1 + i)) i).next),
                      SV.d (Value.int IntKind.i64 (sendL L i (IntKind.i64.wrap (1 + i)) i).last), SV.mp 1],
                  AB.pm (sendL L i (IntKind.i64.wrap (1 + i)) i).es]))
            (T.ret
              (Exit.normal,
                [AV.e (EV.s (SV.d (Value.int IntKind.i64 room))), AV.e (EV.s (SV.d (Value.int IntKind.u64 first))),
                  AV.e (EV.s (SV.d (Value.int IntKind.i64 which))), AV.e (EV.s (SV.d (Value.bool ex))),
                  AV.e (EV.s (SV.ptr 0 0)), AV.e (EV.s (SV.d (Value.int IntKind.i64 (IntKind.i64.wrap (i + 1)))))],
                [AB.cells 86
                    [SV.d (Value.int IntKind.i64 (sendL L i (IntKind.i64.wrap (1 + i)) i).room),
                      SV.d (Value.int IntKind.u64 (sendL L i (IntKind.i64.wrap (1 + i)) i).first),
                      SV.d (Value.int IntKind.u64 (sendL L i (IntKind.i64.wrap (1 + i)) i).next),
                      SV.d (Value.int IntKind.i64 (sendL L i (IntKind.i64.wrap (1 + i)) i).last), SV.mp 1],
                  AB.pm (sendL L i (IntKind.i64.wrap (1 + i)) i).es])))))
      (T.ret
        (Exit.exit 0,
          [AV.e (EV.s (SV.d (Value.int IntKind.i64 room))), AV.e (EV.s (SV.d (Value.int IntKind.u64 first))),
            AV.e (EV.s (SV.d (Value.int IntKind.i64 which))), AV.e (EV.s (SV.d (Value.bool ex))), AV.e (EV.s (SV.ptr 0 0)),
            AV.e (EV.s (SV.d (Value.int IntKind.i64 i)))],
          [AB.cells 86
              [SV.d (Value.int IntKind.i64 L.room), SV.d (Value.int IntKind.u64 L.first),
                SV.d (Value.int IntKind.u64 L.next), SV.d (Value.int IntKind.i64 L.last), SV.mp 1],
            AB.pm L.es])) := by kernel_rfl


noncomputable def t5k (room first which : Int) (ex : Bool) (L : LSt) (i : Int) (vs : Nat → Value) : T (AV × Heap) := ((t5 room first which ex).go [false, false, false, false]).kont (.exit 0) ⟨fat [0, 1, 2, 3, 9, 11] vs (x5 room first which ex i) 166 0, H5 L⟩

theorem t5k_eq (room first which : Int) (ex : Bool) (L : LSt) (i : Int) (vs : Nat → Value) : t5k room first which ex L i vs =
    T.need L.Ok
      (T.need L.Ok
        (T.ite (sendE L 0 1 room != 2) (T.ret (AV.e (EV.s (SV.c (Value.bool false))), []))
          (T.ite (IntKind.i64.wrap ((sendL L 0 1 room).room - (↑(sendL L 0 1 room).es.length : Int)) != 0)
            (T.ret (AV.e (EV.s (SV.c (Value.bool false))), []))
            (T.ite ((sendL L 0 1 room).next != IntKind.u64.wrap (first + IntKind.u64.wrap room))
              (T.ret (AV.e (EV.s (SV.c (Value.bool false))), []))
              (T.need (sendL L 0 1 room).Ok
                (T.need
                  ((0 + L.es.length ≤ L.es.length ∧
                      0 + (sendL L 0 1 room).es.length ≤ (sendL L 0 1 room).es.length ∧ L.es.length ≤ most) ∧
                    PkRow L.es.length (pkG L.es) ∧ PkRow (sendL L 0 1 room).es.length (pkG (sendL L 0 1 room).es))
                  (T.ite
                    (samePk L.es.length (fun x => decPkt (pkG L.es (0 + x))) (sendL L 0 1 room).es.length fun x =>
                      decPkt (pkG (sendL L 0 1 room).es (0 + x)))
                    (T.ite ((↑L.es.length : Int) != room) (T.ret (AV.e (EV.s (SV.c (Value.bool false))), []))
                      (T.ite ex
                        (T.need ((sendL L 0 1 room).Ok ∧ I64 0 ∧ I64 0)
                          (T.ite ((↑(expP (sendL L 0 1 room) 0 0).length : Int) != 1)
                            (T.ret (AV.e (EV.s (SV.c (Value.bool false))), []))
                            (T.need (expL (sendL L 0 1 room) 0 0).Ok
                              (T.ite (sendE (expL (sendL L 0 1 room) 0 0) 9 9 room == 0)
                                (T.ite
                                  (sendN (expL (sendL L 0 1 room) 0 0) 9 9 room ==
                                    IntKind.u64.wrap (first + IntKind.u64.wrap room))
                                  (T.ite
                                    (IntKind.i64.wrap
                                        ((sendL (expL (sendL L 0 1 room) 0 0) 9 9 room).room -
                                          (↑(sendL (expL (sendL L 0 1 room) 0 0) 9 9 room).es.length : Int)) ==
                                      0)
                                    (T.ret (AV.e (EV.s (SV.c (Value.bool true))), []))
                                    (T.ret (AV.e (EV.s (SV.c (Value.bool false))), [])))
                                  (T.ret (AV.e (EV.s (SV.c (Value.bool false))), [])))
                                (T.ret (AV.e (EV.s (SV.c (Value.bool false))), []))))))
                        (T.ite
                          (takeE (sendL L 0 1 room)
                              (IntKind.u64.wrap
                                (first +
                                  IntKind.u64.wrap
                                    (if false = true then
                                      if
                                          IntKind.i64.wrap (room - 1) >
                                            if true = true then if 0 > which then 0 else which
                                            else if 0 < which then 0 else which then
                                        IntKind.i64.wrap (room - 1)
                                      else
                                        if true = true then if 0 > which then 0 else which
                                        else if 0 < which then 0 else which
                                    else
                                      if
                                          IntKind.i64.wrap (room - 1) <
                                            if true = true then if 0 > which then 0 else which
                                            else if 0 < which then 0 else which then
                                        IntKind.i64.wrap (room - 1)
                                      else
                                        if true = true then if 0 > which then 0 else which
                                        else if 0 < which then 0 else which))) !=
                            0)
                          (T.ret (AV.e (EV.s (SV.c (Value.bool false))), []))
                          (T.ite
                            ((takeP (sendL L 0 1 room)
                                  (IntKind.u64.wrap
                                    (first +
                                      IntKind.u64.wrap
                                        (if false = true then
                                          if
                                              IntKind.i64.wrap (room - 1) >
                                                if true = true then if 0 > which then 0 else which
                                                else if 0 < which then 0 else which then
                                            IntKind.i64.wrap (room - 1)
                                          else
                                            if true = true then if 0 > which then 0 else which
                                            else if 0 < which then 0 else which
                                        else
                                          if
                                              IntKind.i64.wrap (room - 1) <
                                                if true = true then if 0 > which then 0 else which
                                                else if 0 < which then 0 else which then
                                            IntKind.i64.wrap (room - 1)
                                          else
                                            if true = true then if 0 > which then 0 else which
                                            else if 0 < which then 0 else which)))).size !=
                              IntKind.i64.wrap
                                (1 +
                                  if false = true then
                                    if
                                        IntKind.i64.wrap (room - 1) >
                                          if true = true then if 0 > which then 0 else which
                                          else if 0 < which then 0 else which then
                                      IntKind.i64.wrap (room - 1)
                                    else
                                      if true = true then if 0 > which then 0 else which else if 0 < which then 0 else which
                                  else
                                    if
                                        IntKind.i64.wrap (room - 1) <
                                          if true = true then if 0 > which then 0 else which
                                          else if 0 < which then 0 else which then
                                      IntKind.i64.wrap (room - 1)
                                    else
                                      if true = true then if 0 > which then 0 else which
                                      else if 0 < which then 0 else which))
                            (T.ret (AV.e (EV.s (SV.c (Value.bool false))), []))
                            (T.ite
                              ((takeP (sendL L 0 1 room)
                                    (IntKind.u64.wrap
                                      (first +
                                        IntKind.u64.wrap
                                          (if false = true then
                                            if
                                                IntKind.i64.wrap (room - 1) >
                                                  if true = true then if 0 > which then 0 else which
                                                  else if 0 < which then 0 else which then
                                              IntKind.i64.wrap (room - 1)
                                            else
                                              if true = true then if 0 > which then 0 else which
                                              else if 0 < which then 0 else which
                                          else
                                            if
                                                IntKind.i64.wrap (room - 1) <
                                                  if true = true then if 0 > which then 0 else which
                                                  else if 0 < which then 0 else which then
                                              IntKind.i64.wrap (room - 1)
                                            else
                                              if true = true then if 0 > which then 0 else which
                                              else if 0 < which then 0 else which)))).mi !=
                                if false = true then
                                  if
                                      IntKind.i64.wrap (room - 1) >
                                        if true = true then if 0 > which then 0 else which
                                        else if 0 < which then 0 else which then
                                    IntKind.i64.wrap (room - 1)
                                  else
                                    if true = true then if 0 > which then 0 else which else if 0 < which then 0 else which
                                else
                                  if
                                      IntKind.i64.wrap (room - 1) <
                                        if true = true then if 0 > which then 0 else which
                                        else if 0 < which then 0 else which then
                                    IntKind.i64.wrap (room - 1)
                                  else
                                    if true = true then if 0 > which then 0 else which else if 0 < which then 0 else which)
                              (T.ret (AV.e (EV.s (SV.c (Value.bool false))), []))
                              (T.need
                                (takeL (sendL L 0 1 room)
                                    (IntKind.u64.wrap
                                      (first +
                                        IntKind.u64.wrap
                                          (if false = true then
                                            if
                                                IntKind.i64.wrap (room - 1) >
                                                  if true = true then if 0 > which then 0 else which
                                                  else if 0 < which then 0 else which then
                                              IntKind.i64.wrap (room - 1)
                                            else
                                              if true = true then if 0 > which then 0 else which
                                              else if 0 < which then 0 else which
                                          else
                                            if
                                                IntKind.i64.wrap (room - 1) <
                                                  if true = true then if 0 > which then 0 else which
                                                  else if 0 < which then 0 else which then
                                              IntKind.i64.wrap (room - 1)
                                            else
                                              if true = true then if 0 > which then 0 else which
                                              else if 0 < which then 0 else which)))).Ok
                                (T.ite
                                  (sendE
                                      (takeL (sendL L 0 1 room)
                                        (IntKind.u64.wrap
                                          (first +
                                            IntKind.u64.wrap
                                              (if false = true then
                                                if
                                                    IntKind.i64.wrap (room - 1) >
                                                      if true = true then if 0 > which then 0 else which
                                                      else if 0 < which then 0 else which then
                                                  IntKind.i64.wrap (room - 1)
                                                else
                                                  if true = true then if 0 > which then 0 else which
                                                  else if 0 < which then 0 else which
                                              else
                                                if
                                                    IntKind.i64.wrap (room - 1) <
                                                      if true = true then if 0 > which then 0 else which
                                                      else if 0 < which then 0 else which then
                                                  IntKind.i64.wrap (room - 1)
                                                else
                                                  if true = true then if 0 > which then 0 else which
                                                  else if 0 < which then 0 else which))))
                                      9 9 room ==
                                    0)
                                  (T.ite
                                    (sendN
                                        (takeL (sendL L 0 1 room)
                                          (IntKind.u64.wrap
                                            (first +
                                              IntKind.u64.wrap
                                                (if false = true then
                                                  if
                                                      IntKind.i64.wrap (room - 1) >
                                                        if true = true then if 0 > which then 0 else which
                                                        else if 0 < which then 0 else which then
                                                    IntKind.i64.wrap (room - 1)
                                                  else
                                                    if true = true then if 0 > which then 0 else which
                                                    else if 0 < which then 0 else which
                                                else
                                                  if
                                                      IntKind.i64.wrap (room - 1) <
                                                        if true = true then if 0 > which then 0 else which
                                                        else if 0 < which then 0 else which then
                                                    IntKind.i64.wrap (room - 1)
                                                  else
                                                    if true = true then if 0 > which then 0 else which
                                                    else if 0 < which then 0 else which))))
                                        9 9 room ==
                                      IntKind.u64.wrap (first + IntKind.u64.wrap room))
                                    (T.ite
                                      (IntKind.i64.wrap
                                          ((sendL
                                                (takeL (sendL L 0 1 room)
                                                  (IntKind.u64.wrap
                                                    (first +
                                                      IntKind.u64.wrap
                                                        (if false = true then
                                                          if
                                                              IntKind.i64.wrap (room - 1) >
                                                                if true = true then if 0 > which then 0 else which
                                                                else if 0 < which then 0 else which then
                                                            IntKind.i64.wrap (room - 1)
                                                          else
                                                            if true = true then if 0 > which then 0 else which
                                                            else if 0 < which then 0 else which
                                                        else
                                                          if
                                                              IntKind.i64.wrap (room - 1) <
                                                                if true = true then if 0 > which then 0 else which
                                                                else if 0 < which then 0 else which then
                                                            IntKind.i64.wrap (room - 1)
                                                          else
                                                            if true = true then if 0 > which then 0 else which
                                                            else if 0 < which then 0 else which))))
                                                9 9 room).room -
                                            (↑(sendL
                                                      (takeL (sendL L 0 1 room)
                                                        (IntKind.u64.wrap
                                                          (first +
                                                            IntKind.u64.wrap
                                                              (if false = true then
                                                                if
                                                                    IntKind.i64.wrap (room - 1) >
                                                                      if true = true then if 0 > which then 0 else which
                                                                      else if 0 < which then 0 else which then
                                                                  IntKind.i64.wrap (room - 1)
                                                                else
                                                                  if true = true then if 0 > which then 0 else which
                                                                  else if 0 < which then 0 else which
                                                              else
                                                                if
                                                                    IntKind.i64.wrap (room - 1) <
                                                                      if true = true then if 0 > which then 0 else which
                                                                      else if 0 < which then 0 else which then
                                                                  IntKind.i64.wrap (room - 1)
                                                                else
                                                                  if true = true then if 0 > which then 0 else which
                                                                  else if 0 < which then 0 else which))))
                                                      9 9 room).es.length :
                                              Int)) ==
                                        0)
                                      (T.ret (AV.e (EV.s (SV.c (Value.bool true))), []))
                                      (T.ret (AV.e (EV.s (SV.c (Value.bool false))), [])))
                                    (T.ret (AV.e (EV.s (SV.c (Value.bool false))), [])))
                                  (T.ret (AV.e (EV.s (SV.c (Value.bool false))), [])))))))))
                    (T.ret (AV.e (EV.s (SV.c (Value.bool false))), []))))))))) := by kernel_rfl


theorem kl5 : codeB oN (loopAt Try.prog 5 0) = true := by kernel_rfl

end Go.Proofs.Ythckkoledhjmeaa.Ev
