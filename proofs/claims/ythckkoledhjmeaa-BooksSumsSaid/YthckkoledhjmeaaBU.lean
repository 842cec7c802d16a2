/-
  The abstract evaluator's trees: the document's Ack and Lose.
-/
import Derived.Test.YthckkoledhjmeaaBT
namespace Go.Proofs.Ythckkoledhjmeaa.Ev
open Go

noncomputable def t52 (L : LSt) (k : Nat) (pg : Nat → List Value) (n : Nat) (f : Nat → Mi) (now id tmo seq at' : Int) : T (AV × Heap) := callT Try.prog (entL e52) 4 52 [.e (.s (.ptr 0 0)), .d (.int .u64 seq), .d (.int .i64 at')] (rH L k pg n (miF f) now id tmo) fun r H' => .ret (r, H')

theorem t52_eq (L : LSt) (k : Nat) (pg : Nat → List Value) (n : Nat) (f : Nat → Mi) (now id tmo seq at' : Int) : t52 L k pg n f now id tmo seq at' =
 T.ite (decide (at' ≥ 0))
 (T.ite (decide (at' ≤ 1099511627776))
 (T.ite (decide (at' < now))
 (T.ret
 (AV.tup
 [EV.agg
 [SV.c (Value.int IntKind.u64 0), SV.c (Value.int IntKind.i64 0), SV.c (Value.int IntKind.i64 0),
 SV.c (Value.int IntKind.i64 0)],
 EV.s (SV.c (Value.int IntKind.i64 10))],
 [AB.cells 72
 [SV.ptr 1 0, SV.sl 3 15 0 n 0, SV.d (Value.int IntKind.i64 id), SV.d (Value.int IntKind.i64 tmo),
 SV.d (Value.int IntKind.i64 now)],
 AB.cells 44
 [SV.d (Value.int IntKind.i64 L.room), SV.d (Value.int IntKind.u64 L.first),
 SV.d (Value.int IntKind.u64 L.next), SV.d (Value.int IntKind.i64 L.last), SV.sl 2 4 0 k 0],
 AB.row 36 4 k pg, AB.row 80 15 n (miF f)]))
 (T.need
 ((k = k ∧ PkRow k pg) ∧
 { room := L.room, first := L.first, next := L.next, last := L.last, es := rowPk k pg : LSt }.Ok)
 (T.ite
 (takeE { room := L.room, first := L.first, next := L.next, last := L.last, es := rowPk k pg : LSt } seq != 0)
 (T.ret
 (AV.tup
 [EV.agg
 [SV.c (Value.int IntKind.u64 0), SV.c (Value.int IntKind.i64 0), SV.c (Value.int IntKind.i64 0),
 SV.c (Value.int IntKind.i64 0)],
 EV.s
 (SV.d
 (Value.int IntKind.i64
 (takeE
 { room := L.room, first := L.first, next := L.next, last := L.last, es := rowPk k pg : LSt }
 seq)))],
 [AB.cells 72
 [SV.ptr 1 0, SV.sl 3 15 0 n 0, SV.d (Value.int IntKind.i64 id), SV.d (Value.int IntKind.i64 tmo),
 SV.d (Value.int IntKind.i64 now)],
 AB.cells 44
 [SV.d
 (Value.int IntKind.i64
 (takeL
 { room := L.room, first := L.first, next := L.next, last := L.last, es := rowPk k pg : LSt }
 seq).room),
 SV.d
 (Value.int IntKind.u64
 (takeL
 { room := L.room, first := L.first, next := L.next, last := L.last, es := rowPk k pg : LSt }
 seq).first),
 SV.d
 (Value.int IntKind.u64
 (takeL
 { room := L.room, first := L.first, next := L.next, last := L.last, es := rowPk k pg : LSt }
 seq).next),
 SV.d
 (Value.int IntKind.i64
 (takeL
 { room := L.room, first := L.first, next := L.next, last := L.last, es := rowPk k pg : LSt }
 seq).last),
 SV.sl 5 4 0
 (takeL
 { room := L.room, first := L.first, next := L.next, last := L.last, es := rowPk k pg : LSt }
 seq).es.length
 0],
 AB.dead, AB.row 80 15 n (miF f),
 AB.cells 36
 [SV.c (Value.int IntKind.u64 0), SV.c (Value.int IntKind.i64 0), SV.c (Value.int IntKind.i64 0),
 SV.c (Value.int IntKind.i64 0)],
 AB.row 36 4
 (takeL { room := L.room, first := L.first, next := L.next, last := L.last, es := rowPk k pg : LSt }
 seq).es.length
 (pkG
 (takeL { room := L.room, first := L.first, next := L.next, last := L.last, es := rowPk k pg : LSt }
 seq).es)]))
 ((T.need
 (((n = n ∧ MiRow n (miF f)) ∧
 (takeL { room := L.room, first := L.first, next := L.next, last := L.last, es := rowPk k pg : LSt }
 seq).es.length =
 (takeL
 { room := L.room, first := L.first, next := L.next, last := L.last, es := rowPk k pg : LSt }
 seq).es.length ∧
 PkRow
 (takeL
 { room := L.room, first := L.first, next := L.next, last := L.last, es := rowPk k pg : LSt }
 seq).es.length
 (pkG
 (takeL
 { room := L.room, first := L.first, next := L.next, last := L.last, es := rowPk k pg : LSt }
 seq).es)) ∧
 (rowMi n (miF f)).length ≤ 64)
 (T.need
 (some
 (AB.cells 36
 [SV.d
 (Value.int IntKind.u64
 (takeP
 { room := L.room, first := L.first, next := L.next, last := L.last, es := rowPk k pg : LSt }
 seq).seq),
 SV.d
 (Value.int IntKind.i64
 (takeP
 { room := L.room, first := L.first, next := L.next, last := L.last, es := rowPk k pg : LSt }
 seq).mi),
 SV.d
 (Value.int IntKind.i64
 (takeP
 { room := L.room, first := L.first, next := L.next, last := L.last, es := rowPk k pg : LSt }
 seq).size),
 SV.d
 (Value.int IntKind.i64
 (takeP
 { room := L.room, first := L.first, next := L.next, last := L.last, es := rowPk k pg : LSt }
 seq).sent)]) =
 some
 (AB.cells 36
 [SV.d
 (Value.int IntKind.u64
 (takeP
 { room := L.room, first := L.first, next := L.next, last := L.last, es := rowPk k pg : LSt }
 seq).seq),
 SV.d
 (Value.int IntKind.i64
 (takeP
 { room := L.room, first := L.first, next := L.next, last := L.last, es := rowPk k pg : LSt }
 seq).mi),
 SV.d
 (Value.int IntKind.i64
 (takeP
 { room := L.room, first := L.first, next := L.next, last := L.last, es := rowPk k pg : LSt }
 seq).size),
 SV.d
 (Value.int IntKind.i64
 (takeP
 { room := L.room, first := L.first, next := L.next, last := L.last, es := rowPk k pg : LSt }
 seq).sent)]))
 (T.need
 (some
 (AB.cells 36
 [SV.d
 (Value.int IntKind.u64
 (takeP
 { room := L.room, first := L.first, next := L.next, last := L.last, es := rowPk k pg : LSt }
 seq).seq),
 SV.d
 (Value.int IntKind.i64
 (takeP
 { room := L.room, first := L.first, next := L.next, last := L.last, es := rowPk k pg : LSt }
 seq).mi),
 SV.d
 (Value.int IntKind.i64
 (takeP
 { room := L.room, first := L.first, next := L.next, last := L.last, es := rowPk k pg : LSt }
 seq).size),
 SV.d
 (Value.int IntKind.i64
 (takeP
 { room := L.room, first := L.first, next := L.next, last := L.last, es := rowPk k pg : LSt }
 seq).sent)]) =
 some
 (AB.cells 36
 [SV.d
 (Value.int IntKind.u64
 (takeP
 { room := L.room, first := L.first, next := L.next, last := L.last, es := rowPk k pg : LSt }
 seq).seq),
 SV.d
 (Value.int IntKind.i64
 (takeP
 { room := L.room, first := L.first, next := L.next, last := L.last, es := rowPk k pg : LSt }
 seq).mi),
 SV.d
 (Value.int IntKind.i64
 (takeP
 { room := L.room, first := L.first, next := L.next, last := L.last, es := rowPk k pg : LSt }
 seq).size),
 SV.d
 (Value.int IntKind.i64
 (takeP
 { room := L.room, first := L.first, next := L.next, last := L.last, es := rowPk k pg : LSt }
 seq).sent)]))
 ((T.need
 ((ackE
 (ofM (rowMi n (miF f))
 (takeP
 { room := L.room, first := L.first, next := L.next, last := L.last, es := rowPk k pg : LSt }
 seq).mi)
 (takeP
 { room := L.room, first := L.first, next := L.next, last := L.last, es := rowPk k pg : LSt }
 seq).size
 (takeP
 { room := L.room, first := L.first, next := L.next, last := L.last, es := rowPk k pg : LSt }
 seq).sent
 at' ==
 0) =
 true)
 (T.need
 ((((rowMi n (miF f)).length = (rowMi n (miF f)).length ∧
 MiRow (rowMi n (miF f)).length (miG (rowMi n (miF f)))) ∧
 (rowPk
 (takeL
 { room := L.room, first := L.first, next := L.next, last := L.last, es := rowPk k pg : LSt }
 seq).es.length
 (pkG
 (takeL
 { room := L.room, first := L.first, next := L.next, last := L.last, es := rowPk k pg : LSt }
 seq).es)).length =
 (rowPk
 (takeL
 { room := L.room, first := L.first, next := L.next, last := L.last, es := rowPk k pg : LSt }
 seq).es.length
 (pkG
 (takeL
 { room := L.room, first := L.first, next := L.next, last := L.last, es := rowPk k pg : LSt }
 seq).es)).length ∧
 PkRow
 (rowPk
 (takeL
 { room := L.room, first := L.first, next := L.next, last := L.last, es := rowPk k pg : LSt }
 seq).es.length
 (pkG
 (takeL
 { room := L.room, first := L.first, next := L.next, last := L.last, es := rowPk k pg : LSt }
 seq).es)).length
 (pkG
 (rowPk
 (takeL
 { room := L.room, first := L.first, next := L.next, last := L.last, es := rowPk k pg : LSt }
 seq).es.length
 (pkG
 (takeL
 { room := L.room, first := L.first, next := L.next, last := L.last, es := rowPk k pg : LSt }
 seq).es)))) ∧
 (rowMi (rowMi n (miF f)).length (miG (rowMi n (miF f)))).length ≤ 64)
 (T.ret
 (AV.tup
 [EV.agg
 [SV.d
 (Value.int IntKind.u64
 (takeP
 { room := L.room, first := L.first, next := L.next, last := L.last, es := rowPk k pg : LSt }
 seq).seq),
 SV.d
 (Value.int IntKind.i64
 (takeP
 { room := L.room, first := L.first, next := L.next, last := L.last, es := rowPk k pg : LSt }
 seq).mi),
 SV.d
 (Value.int IntKind.i64
 (takeP
 { room := L.room, first := L.first, next := L.next, last := L.last, es := rowPk k pg : LSt }
 seq).size),
 SV.d
 (Value.int IntKind.i64
 (takeP
 { room := L.room, first := L.first, next := L.next, last := L.last, es := rowPk k pg : LSt }
 seq).sent)],
 EV.s (SV.c (Value.int IntKind.i64 0))],
 [AB.cells 72
 [SV.ptr 1 0,
 SV.sl 11 15 0
 (putM (rowMi (rowMi n (miF f)).length (miG (rowMi n (miF f))))
 (ackM
 (ofM (rowMi n (miF f))
 (takeP
 { room := L.room, first := L.first, next := L.next, last := L.last, es := rowPk k pg : LSt }
 seq).mi)
 (takeP
 { room := L.room, first := L.first, next := L.next, last := L.last, es := rowPk k pg : LSt }
 seq).size
 (takeP
 { room := L.room, first := L.first, next := L.next, last := L.last, es := rowPk k pg : LSt }
 seq).sent
 at')).length
 0,
 SV.d (Value.int IntKind.i64 id), SV.d (Value.int IntKind.i64 tmo),
 SV.d (Value.int IntKind.i64 at')],
 AB.cells 44
 [SV.d
 (Value.int IntKind.i64
 (takeL
 { room := L.room, first := L.first, next := L.next, last := L.last, es := rowPk k pg : LSt }
 seq).1),
 SV.d
 (Value.int IntKind.u64
 (takeL
 { room := L.room, first := L.first, next := L.next, last := L.last, es := rowPk k pg : LSt }
 seq).2),
 SV.d
 (Value.int IntKind.u64
 (takeL
 { room := L.room, first := L.first, next := L.next, last := L.last, es := rowPk k pg : LSt }
 seq).3),
 SV.d
 (Value.int IntKind.i64
 (takeL
 { room := L.room, first := L.first, next := L.next, last := L.last, es := rowPk k pg : LSt }
 seq).4),
 SV.sl 10 4 0
 (rowPk
 (rowPk
 (takeL
 { room := L.room, first := L.first, next := L.next, last := L.last, es := rowPk k pg : LSt }
 seq).es.length
 (pkG
 (takeL
 { room := L.room, first := L.first, next := L.next, last := L.last, es := rowPk k pg : LSt }
 seq).es)).length
 (pkG
 (rowPk
 (takeL
 { room := L.room, first := L.first, next := L.next, last := L.last, es := rowPk k pg : LSt }
 seq).es.length
 (pkG
 (takeL
 { room := L.room, first := L.first, next := L.next, last := L.last, es := rowPk k pg : LSt }
 seq).es)))).length
 0],
 AB.dead, AB.dead,
 AB.cells 36
 [SV.d
 (Value.int IntKind.u64
 (takeP
 { room := L.room, first := L.first, next := L.next, last := L.last, es := rowPk k pg : LSt }
 seq).seq),
 SV.d
 (Value.int IntKind.i64
 (takeP
 { room := L.room, first := L.first, next := L.next, last := L.last, es := rowPk k pg : LSt }
 seq).mi),
 SV.d
 (Value.int IntKind.i64
 (takeP
 { room := L.room, first := L.first, next := L.next, last := L.last, es := rowPk k pg : LSt }
 seq).size),
 SV.d
 (Value.int IntKind.i64
 (takeP
 { room := L.room, first := L.first, next := L.next, last := L.last, es := rowPk k pg : LSt }
 seq).sent)],
 AB.dead,
 AB.cells 36
 [SV.d
 (Value.int IntKind.u64
 (takeP
 { room := L.room, first := L.first, next := L.next, last := L.last, es := rowPk k pg : LSt }
 seq).seq),
 SV.d
 (Value.int IntKind.i64
 (takeP
 { room := L.room, first := L.first, next := L.next, last := L.last, es := rowPk k pg : LSt }
 seq).mi),
 SV.d
 (Value.int IntKind.i64
 (takeP
 { room := L.room, first := L.first, next := L.next, last := L.last, es := rowPk k pg : LSt }
 seq).size),
 SV.d
 (Value.int IntKind.i64
 (takeP
 { room := L.room, first := L.first, next := L.next, last := L.last, es := rowPk k pg : LSt }
 seq).sent)],
 AB.dead, AB.dead,
 AB.cells 80
 [SV.d
 (Value.int IntKind.i64
 (ackM
 (ofM (rowMi n (miF f))
 (takeP
 { room := L.room, first := L.first, next := L.next, last := L.last, es := rowPk k pg : LSt }
 seq).mi)
 (takeP
 { room := L.room, first := L.first, next := L.next, last := L.last, es := rowPk k pg : LSt }
 seq).size
 (takeP
 { room := L.room, first := L.first, next := L.next, last := L.last, es := rowPk k pg : LSt }
 seq).sent
 at').id),
 SV.d
 (Value.int IntKind.i64
 (ackM
 (ofM (rowMi n (miF f))
 (takeP
 { room := L.room, first := L.first, next := L.next, last := L.last, es := rowPk k pg : LSt }
 seq).mi)
 (takeP
 { room := L.room, first := L.first, next := L.next, last := L.last, es := rowPk k pg : LSt }
 seq).size
 (takeP
 { room := L.room, first := L.first, next := L.next, last := L.last, es := rowPk k pg : LSt }
 seq).sent
 at').frm),
 SV.d
 (Value.int IntKind.i64
 (ackM
 (ofM (rowMi n (miF f))
 (takeP
 { room := L.room, first := L.first, next := L.next, last := L.last, es := rowPk k pg : LSt }
 seq).mi)
 (takeP
 { room := L.room, first := L.first, next := L.next, last := L.last, es := rowPk k pg : LSt }
 seq).size
 (takeP
 { room := L.room, first := L.first, next := L.next, last := L.last, es := rowPk k pg : LSt }
 seq).sent
 at').to),
 SV.d
 (Value.int IntKind.i64
 (ackM
 (ofM (rowMi n (miF f))
 (takeP
 { room := L.room, first := L.first, next := L.next, last := L.last, es := rowPk k pg : LSt }
 seq).mi)
 (takeP
 { room := L.room, first := L.first, next := L.next, last := L.last, es := rowPk k pg : LSt }
 seq).size
 (takeP
 { room := L.room, first := L.first, next := L.next, last := L.last, es := rowPk k pg : LSt }
 seq).sent
 at').sent),
 SV.d
 (Value.int IntKind.i64
 (ackM
 (ofM (rowMi n (miF f))
 (takeP
 { room := L.room, first := L.first, next := L.next, last := L.last, es := rowPk k pg : LSt }
 seq).mi)
 (takeP
 { room := L.room, first := L.first, next := L.next, last := L.last, es := rowPk k pg : LSt }
 seq).size
 (takeP
 { room := L.room, first := L.first, next := L.next, last := L.last, es := rowPk k pg : LSt }
 seq).sent
 at').acked),
 SV.d
 (Value.int IntKind.i64
 (ackM
 (ofM (rowMi n (miF f))
 (takeP
 { room := L.room, first := L.first, next := L.next, last := L.last, es := rowPk k pg : LSt }
 seq).mi)
 (takeP
 { room := L.room, first := L.first, next := L.next, last := L.last, es := rowPk k pg : LSt }
 seq).size
 (takeP
 { room := L.room, first := L.first, next := L.next, last := L.last, es := rowPk k pg : LSt }
 seq).sent
 at').lost),
 SV.d
 (Value.int IntKind.i64
 (ackM
 (ofM (rowMi n (miF f))
 (takeP
 { room := L.room, first := L.first, next := L.next, last := L.last, es := rowPk k pg : LSt }
 seq).mi)
 (takeP
 { room := L.room, first := L.first, next := L.next, last := L.last, es := rowPk k pg : LSt }
 seq).size
 (takeP
 { room := L.room, first := L.first, next := L.next, last := L.last, es := rowPk k pg : LSt }
 seq).sent
 at').packets),
 SV.d
 (Value.int IntKind.i64
 (ackM
 (ofM (rowMi n (miF f))
 (takeP
 { room := L.room, first := L.first, next := L.next, last := L.last, es := rowPk k pg : LSt }
 seq).mi)
 (takeP
 { room := L.room, first := L.first, next := L.next, last := L.last, es := rowPk k pg : LSt }
 seq).size
 (takeP
 { room := L.room, first := L.first, next := L.next, last := L.last, es := rowPk k pg : LSt }
 seq).sent
 at').hits),
 SV.d
 (Value.int IntKind.i64
 (ackM
 (ofM (rowMi n (miF f))
 (takeP
 { room := L.room, first := L.first, next := L.next, last := L.last, es := rowPk k pg : LSt }
 seq).mi)
 (takeP
 { room := L.room, first := L.first, next := L.next, last := L.last, es := rowPk k pg : LSt }
 seq).size
 (takeP
 { room := L.room, first := L.first, next := L.next, last := L.last, es := rowPk k pg : LSt }
 seq).sent
 at').drops),
 SV.d
 (Value.int IntKind.i64
 (ackM
 (ofM (rowMi n (miF f))
 (takeP
 { room := L.room, first := L.first, next := L.next, last := L.last, es := rowPk k pg : LSt }
 seq).mi)
 (takeP
 { room := L.room, first := L.first, next := L.next, last := L.last, es := rowPk k pg : LSt }
 seq).size
 (takeP
 { room := L.room, first := L.first, next := L.next, last := L.last, es := rowPk k pg : LSt }
 seq).sent
 at').n),
 SV.d
 (Value.int IntKind.i64
 (ackM
 (ofM (rowMi n (miF f))
 (takeP
 { room := L.room, first := L.first, next := L.next, last := L.last, es := rowPk k pg : LSt }
 seq).mi)
 (takeP
 { room := L.room, first := L.first, next := L.next, last := L.last, es := rowPk k pg : LSt }
 seq).size
 (takeP
 { room := L.room, first := L.first, next := L.next, last := L.last, es := rowPk k pg : LSt }
 seq).sent
 at').sumT),
 SV.d
 (Value.int IntKind.i64
 (ackM
 (ofM (rowMi n (miF f))
 (takeP
 { room := L.room, first := L.first, next := L.next, last := L.last, es := rowPk k pg : LSt }
 seq).mi)
 (takeP
 { room := L.room, first := L.first, next := L.next, last := L.last, es := rowPk k pg : LSt }
 seq).size
 (takeP
 { room := L.room, first := L.first, next := L.next, last := L.last, es := rowPk k pg : LSt }
 seq).sent
 at').sumR),
 SV.d
 (Value.int IntKind.i64
 (ackM
 (ofM (rowMi n (miF f))
 (takeP
 { room := L.room, first := L.first, next := L.next, last := L.last, es := rowPk k pg : LSt }
 seq).mi)
 (takeP
 { room := L.room, first := L.first, next := L.next, last := L.last, es := rowPk k pg : LSt }
 seq).size
 (takeP
 { room := L.room, first := L.first, next := L.next, last := L.last, es := rowPk k pg : LSt }
 seq).sent
 at').sumTT),
 SV.d
 (Value.int IntKind.i64
 (ackM
 (ofM (rowMi n (miF f))
 (takeP
 { room := L.room, first := L.first, next := L.next, last := L.last, es := rowPk k pg : LSt }
 seq).mi)
 (takeP
 { room := L.room, first := L.first, next := L.next, last := L.last, es := rowPk k pg : LSt }
 seq).size
 (takeP
 { room := L.room, first := L.first, next := L.next, last := L.last, es := rowPk k pg : LSt }
 seq).sent
 at').sumTR),
 SV.d
 (Value.int IntKind.i64
 (ackM
 (ofM (rowMi n (miF f))
 (takeP
 { room := L.room, first := L.first, next := L.next, last := L.last, es := rowPk k pg : LSt }
 seq).mi)
 (takeP
 { room := L.room, first := L.first, next := L.next, last := L.last, es := rowPk k pg : LSt }
 seq).size
 (takeP
 { room := L.room, first := L.first, next := L.next, last := L.last, es := rowPk k pg : LSt }
 seq).sent
 at').sumRR)],
 AB.row 36 4
 (rowPk
 (rowPk
 (takeL
 { room := L.room, first := L.first, next := L.next, last := L.last, es := rowPk k pg : LSt }
 seq).es.length
 (pkG
 (takeL
 { room := L.room, first := L.first, next := L.next, last := L.last, es := rowPk k pg : LSt }
 seq).es)).length
 (pkG
 (rowPk
 (takeL
 { room := L.room, first := L.first, next := L.next, last := L.last, es := rowPk k pg : LSt }
 seq).es.length
 (pkG
 (takeL
 { room := L.room, first := L.first, next := L.next, last := L.last, es := rowPk k pg : LSt }
 seq).es)))).length
 (pkG
 (rowPk
 (rowPk
 (takeL
 { room := L.room, first := L.first, next := L.next, last := L.last, es := rowPk k pg : LSt }
 seq).es.length
 (pkG
 (takeL
 { room := L.room, first := L.first, next := L.next, last := L.last, es := rowPk k pg : LSt }
 seq).es)).length
 (pkG
 (rowPk
 (takeL
 { room := L.room, first := L.first, next := L.next, last := L.last, es := rowPk k pg : LSt }
 seq).es.length
 (pkG
 (takeL
 { room := L.room, first := L.first, next := L.next, last := L.last, es := rowPk k pg : LSt }
 seq).es))))),
 AB.row 80 15
 (putM (rowMi (rowMi n (miF f)).length (miG (rowMi n (miF f))))
 (ackM
 (ofM (rowMi n (miF f))
 (takeP
 { room := L.room, first := L.first, next := L.next, last := L.last, es := rowPk k pg : LSt }
 seq).mi)
 (takeP
 { room := L.room, first := L.first, next := L.next, last := L.last, es := rowPk k pg : LSt }
 seq).size
 (takeP
 { room := L.room, first := L.first, next := L.next, last := L.last, es := rowPk k pg : LSt }
 seq).sent
 at')).length
 (miG
 (putM (rowMi (rowMi n (miF f)).length (miG (rowMi n (miF f))))
 (ackM
 (ofM (rowMi n (miF f))
 (takeP
 { room := L.room, first := L.first, next := L.next, last := L.last, es := rowPk k pg : LSt }
 seq).mi)
 (takeP
 { room := L.room, first := L.first, next := L.next, last := L.last, es := rowPk k pg : LSt }
 seq).size
 (takeP
 { room := L.room, first := L.first, next := L.next, last := L.last, es := rowPk k pg : LSt }
 seq).sent
 at')))])))).both
 (T.need
 (some
 (AB.cells 36
 [SV.d
 (Value.int IntKind.u64
 (takeP
 { room := L.room, first := L.first, next := L.next, last := L.last, es := rowPk k pg : LSt }
 seq).seq),
 SV.d
 (Value.int IntKind.i64
 (takeP
 { room := L.room, first := L.first, next := L.next, last := L.last, es := rowPk k pg : LSt }
 seq).mi),
 SV.d
 (Value.int IntKind.i64
 (takeP
 { room := L.room, first := L.first, next := L.next, last := L.last, es := rowPk k pg : LSt }
 seq).size),
 SV.d
 (Value.int IntKind.i64
 (takeP
 { room := L.room, first := L.first, next := L.next, last := L.last, es := rowPk k pg : LSt }
 seq).sent)]) =
 some
 (AB.cells 36
 [SV.d
 (Value.int IntKind.u64
 (takeP
 { room := L.room, first := L.first, next := L.next, last := L.last, es := rowPk k pg : LSt }
 seq).seq),
 SV.d
 (Value.int IntKind.i64
 (takeP
 { room := L.room, first := L.first, next := L.next, last := L.last, es := rowPk k pg : LSt }
 seq).mi),
 SV.d
 (Value.int IntKind.i64
 (takeP
 { room := L.room, first := L.first, next := L.next, last := L.last, es := rowPk k pg : LSt }
 seq).size),
 SV.d
 (Value.int IntKind.i64
 (takeP
 { room := L.room, first := L.first, next := L.next, last := L.last, es := rowPk k pg : LSt }
 seq).sent)]))
 (T.need
 (some
 (AB.cells 36
 [SV.d
 (Value.int IntKind.u64
 (takeP
 { room := L.room, first := L.first, next := L.next, last := L.last, es := rowPk k pg : LSt }
 seq).seq),
 SV.d
 (Value.int IntKind.i64
 (takeP
 { room := L.room, first := L.first, next := L.next, last := L.last, es := rowPk k pg : LSt }
 seq).mi),
 SV.d
 (Value.int IntKind.i64
 (takeP
 { room := L.room, first := L.first, next := L.next, last := L.last, es := rowPk k pg : LSt }
 seq).size),
 SV.d
 (Value.int IntKind.i64
 (takeP
 { room := L.room, first := L.first, next := L.next, last := L.last, es := rowPk k pg : LSt }
 seq).sent)]) =
 some
 (AB.cells 36
 [SV.d
 (Value.int IntKind.u64
 (takeP
 { room := L.room, first := L.first, next := L.next, last := L.last, es := rowPk k pg : LSt }
 seq).seq),
 SV.d
 (Value.int IntKind.i64
 (takeP
 { room := L.room, first := L.first, next := L.next, last := L.last, es := rowPk k pg : LSt }
 seq).mi),
 SV.d
 (Value.int IntKind.i64
 (takeP
 { room := L.room, first := L.first, next := L.next, last := L.last, es := rowPk k pg : LSt }
 seq).size),
 SV.d
 (Value.int IntKind.i64
 (takeP
 { room := L.room, first := L.first, next := L.next, last := L.last, es := rowPk k pg : LSt }
 seq).sent)]))
 (T.need
 ((ackE
 (ofM (rowMi n (miF f))
 (takeP
 { room := L.room, first := L.first, next := L.next, last := L.last, es := rowPk k pg : LSt }
 seq).mi)
 (takeP
 { room := L.room, first := L.first, next := L.next, last := L.last, es := rowPk k pg : LSt }
 seq).size
 (takeP
 { room := L.room, first := L.first, next := L.next, last := L.last, es := rowPk k pg : LSt }
 seq).sent
 at' ==
 0) =
 true)
 (T.need
 ((((rowMi n (miF f)).length = (rowMi n (miF f)).length ∧
 MiRow (rowMi n (miF f)).length (miG (rowMi n (miF f)))) ∧
 (rowPk
 (takeL
 { room := L.room, first := L.first, next := L.next, last := L.last, es := rowPk k pg : LSt }
 seq).es.length
 (pkG
 (takeL
 { room := L.room, first := L.first, next := L.next, last := L.last, es := rowPk k pg : LSt }
 seq).es)).length =
 (rowPk
 (takeL
 { room := L.room, first := L.first, next := L.next, last := L.last, es := rowPk k pg : LSt }
 seq).es.length
 (pkG
 (takeL
 { room := L.room, first := L.first, next := L.next, last := L.last, es := rowPk k pg : LSt }
 seq).es)).length ∧
 PkRow
 (rowPk
 (takeL
 { room := L.room, first := L.first, next := L.next, last := L.last, es := rowPk k pg : LSt }
 seq).es.length
 (pkG
 (takeL
 { room := L.room, first := L.first, next := L.next, last := L.last, es := rowPk k pg : LSt }
 seq).es)).length
 (pkG
 (rowPk
 (takeL
 { room := L.room, first := L.first, next := L.next, last := L.last, es := rowPk k pg : LSt }
 seq).es.length
 (pkG
 (takeL
 { room := L.room, first := L.first, next := L.next, last := L.last, es := rowPk k pg : LSt }
 seq).es)))) ∧
 (rowMi (rowMi n (miF f)).length (miG (rowMi n (miF f)))).length ≤ 64)
 (T.ret
 (AV.tup
 [EV.agg
 [SV.d
 (Value.int IntKind.u64
 (takeP
 { room := L.room, first := L.first, next := L.next, last := L.last, es := rowPk k pg : LSt }
 seq).seq),
 SV.d
 (Value.int IntKind.i64
 (takeP
 { room := L.room, first := L.first, next := L.next, last := L.last, es := rowPk k pg : LSt }
 seq).mi),
 SV.d
 (Value.int IntKind.i64
 (takeP
 { room := L.room, first := L.first, next := L.next, last := L.last, es := rowPk k pg : LSt }
 seq).size),
 SV.d
 (Value.int IntKind.i64
 (takeP
 { room := L.room, first := L.first, next := L.next, last := L.last, es := rowPk k pg : LSt }
 seq).sent)],
 EV.s (SV.c (Value.int IntKind.i64 0))],
 [AB.cells 72
 [SV.ptr 1 0,
 SV.sl 11 15 0
 (putM (rowMi (rowMi n (miF f)).length (miG (rowMi n (miF f))))
 (ackM
 (ofM (rowMi n (miF f))
 (takeP
 { room := L.room, first := L.first, next := L.next, last := L.last, es := rowPk k pg : LSt }
 seq).mi)
 (takeP
 { room := L.room, first := L.first, next := L.next, last := L.last, es := rowPk k pg : LSt }
 seq).size
 (takeP
 { room := L.room, first := L.first, next := L.next, last := L.last, es := rowPk k pg : LSt }
 seq).sent
 at')).length
 0,
 SV.d (Value.int IntKind.i64 id), SV.d (Value.int IntKind.i64 tmo),
 SV.d (Value.int IntKind.i64 at')],
 AB.cells 44
 [SV.d
 (Value.int IntKind.i64
 (takeL
 { room := L.room, first := L.first, next := L.next, last := L.last, es := rowPk k pg : LSt }
 seq).1),
 SV.d
 (Value.int IntKind.u64
 (takeL
 { room := L.room, first := L.first, next := L.next, last := L.last, es := rowPk k pg : LSt }
 seq).2),
 SV.d
 (Value.int IntKind.u64
 (takeL
 { room := L.room, first := L.first, next := L.next, last := L.last, es := rowPk k pg : LSt }
 seq).3),
 SV.d
 (Value.int IntKind.i64
 (takeL
 { room := L.room, first := L.first, next := L.next, last := L.last, es := rowPk k pg : LSt }
 seq).4),
 SV.sl 10 4 0
 (rowPk
 (rowPk
 (takeL
 { room := L.room, first := L.first, next := L.next, last := L.last, es := rowPk k pg : LSt }
 seq).es.length
 (pkG
 (takeL
 { room := L.room, first := L.first, next := L.next, last := L.last, es := rowPk k pg : LSt }
 seq).es)).length
 (pkG
 (rowPk
 (takeL
 { room := L.room, first := L.first, next := L.next, last := L.last, es := rowPk k pg : LSt }
 seq).es.length
 (pkG
 (takeL
 { room := L.room, first := L.first, next := L.next, last := L.last, es := rowPk k pg : LSt }
 seq).es)))).length
 0],
 AB.dead, AB.dead,
 AB.cells 36
 [SV.d
 (Value.int IntKind.u64
 (takeP
 { room := L.room, first := L.first, next := L.next, last := L.last, es := rowPk k pg : LSt }
 seq).seq),
 SV.d
 (Value.int IntKind.i64
 (takeP
 { room := L.room, first := L.first, next := L.next, last := L.last, es := rowPk k pg : LSt }
 seq).mi),
 SV.d
 (Value.int IntKind.i64
 (takeP
 { room := L.room, first := L.first, next := L.next, last := L.last, es := rowPk k pg : LSt }
 seq).size),
 SV.d
 (Value.int IntKind.i64
 (takeP
 { room := L.room, first := L.first, next := L.next, last := L.last, es := rowPk k pg : LSt }
 seq).sent)],
 AB.dead,
 AB.cells 36
 [SV.d
 (Value.int IntKind.u64
 (takeP
 { room := L.room, first := L.first, next := L.next, last := L.last, es := rowPk k pg : LSt }
 seq).seq),
 SV.d
 (Value.int IntKind.i64
 (takeP
 { room := L.room, first := L.first, next := L.next, last := L.last, es := rowPk k pg : LSt }
 seq).mi),
 SV.d
 (Value.int IntKind.i64
 (takeP
 { room := L.room, first := L.first, next := L.next, last := L.last, es := rowPk k pg : LSt }
 seq).size),
 SV.d
 (Value.int IntKind.i64
 (takeP
 { room := L.room, first := L.first, next := L.next, last := L.last, es := rowPk k pg : LSt }
 seq).sent)],
 AB.dead, AB.dead,
 AB.cells 80
 [SV.d
 (Value.int IntKind.i64
 (ackM
 (ofM (rowMi n (miF f))
 (takeP
 { room := L.room, first := L.first, next := L.next, last := L.last, es := rowPk k pg : LSt }
 seq).mi)
 (takeP
 { room := L.room, first := L.first, next := L.next, last := L.last, es := rowPk k pg : LSt }
 seq).size
 (takeP
 { room := L.room, first := L.first, next := L.next, last := L.last, es := rowPk k pg : LSt }
 seq).sent
 at').id),
 SV.d
 (Value.int IntKind.i64
 (ackM
 (ofM (rowMi n (miF f))
 (takeP
 { room := L.room, first := L.first, next := L.next, last := L.last, es := rowPk k pg : LSt }
 seq).mi)
 (takeP
 { room := L.room, first := L.first, next := L.next, last := L.last, es := rowPk k pg : LSt }
 seq).size
 (takeP
 { room := L.room, first := L.first, next := L.next, last := L.last, es := rowPk k pg : LSt }
 seq).sent
 at').frm),
 SV.d
 (Value.int IntKind.i64
 (ackM
 (ofM (rowMi n (miF f))
 (takeP
 { room := L.room, first := L.first, next := L.next, last := L.last, es := rowPk k pg : LSt }
 seq).mi)
 (takeP
 { room := L.room, first := L.first, next := L.next, last := L.last, es := rowPk k pg : LSt }
 seq).size
 (takeP
 { room := L.room, first := L.first, next := L.next, last := L.last, es := rowPk k pg : LSt }
 seq).sent
 at').to),
 SV.d
 (Value.int IntKind.i64
 (ackM
 (ofM (rowMi n (miF f))
 (takeP
 { room := L.room, first := L.first, next := L.next, last := L.last, es := rowPk k pg : LSt }
 seq).mi)
 (takeP
 { room := L.room, first := L.first, next := L.next, last := L.last, es := rowPk k pg : LSt }
 seq).size
 (takeP
 { room := L.room, first := L.first, next := L.next, last := L.last, es := rowPk k pg : LSt }
 seq).sent
 at').sent),
 SV.d
 (Value.int IntKind.i64
 (ackM
 (ofM (rowMi n (miF f))
 (takeP
 { room := L.room, first := L.first, next := L.next, last := L.last, es := rowPk k pg : LSt }
 seq).mi)
 (takeP
 { room := L.room, first := L.first, next := L.next, last := L.last, es := rowPk k pg : LSt }
 seq).size
 (takeP
 { room := L.room, first := L.first, next := L.next, last := L.last, es := rowPk k pg : LSt }
 seq).sent
 at').acked),
 SV.d
 (Value.int IntKind.i64
 (ackM
 (ofM (rowMi n (miF f))
 (takeP
 { room := L.room, first := L.first, next := L.next, last := L.last, es := rowPk k pg : LSt }
 seq).mi)
 (takeP
 { room := L.room, first := L.first, next := L.next, last := L.last, es := rowPk k pg : LSt }
 seq).size
 (takeP
 { room := L.room, first := L.first, next := L.next, last := L.last, es := rowPk k pg : LSt }
 seq).sent
 at').lost),
 SV.d
 (Value.int IntKind.i64
 (ackM
 (ofM (rowMi n (miF f))
 (takeP
 { room := L.room, first := L.first, next := L.next, last := L.last, es := rowPk k pg : LSt }
 seq).mi)
 (takeP
 { room := L.room, first := L.first, next := L.next, last := L.last, es := rowPk k pg : LSt }
 seq).size
 (takeP
 { room := L.room, first := L.first, next := L.next, last := L.last, es := rowPk k pg : LSt }
 seq).sent
 at').packets),
 SV.d
 (Value.int IntKind.i64
 (ackM
 (ofM (rowMi n (miF f))
 (takeP
 { room := L.room, first := L.first, next := L.next, last := L.last, es := rowPk k pg : LSt }
 seq).mi)
 (takeP
 { room := L.room, first := L.first, next := L.next, last := L.last, es := rowPk k pg : LSt }
 seq).size
 (takeP
 { room := L.room, first := L.first, next := L.next, last := L.last, es := rowPk k pg : LSt }
 seq).sent
 at').hits),
 SV.d
 (Value.int IntKind.i64
 (ackM
 (ofM (rowMi n (miF f))
 (takeP
 { room := L.room, first := L.first, next := L.next, last := L.last, es := rowPk k pg : LSt }
 seq).mi)
 (takeP
 { room := L.room, first := L.first, next := L.next, last := L.last, es := rowPk k pg : LSt }
 seq).size
 (takeP
 { room := L.room, first := L.first, next := L.next, last := L.last, es := rowPk k pg : LSt }
 seq).sent
 at').drops),
 SV.d
 (Value.int IntKind.i64
 (ackM
 (ofM (rowMi n (miF f))
 (takeP
 { room := L.room, first := L.first, next := L.next, last := L.last, es := rowPk k pg : LSt }
 seq).mi)
 (takeP
 { room := L.room, first := L.first, next := L.next, last := L.last, es := rowPk k pg : LSt }
 seq).size
 (takeP
 { room := L.room, first := L.first, next := L.next, last := L.last, es := rowPk k pg : LSt }
 seq).sent
 at').n),
 SV.d
 (Value.int IntKind.i64
 (ackM
 (ofM (rowMi n (miF f))
 (takeP
 { room := L.room, first := L.first, next := L.next, last := L.last, es := rowPk k pg : LSt }
 seq).mi)
 (takeP
 { room := L.room, first := L.first, next := L.next, last := L.last, es := rowPk k pg : LSt }
 seq).size
 (takeP
 { room := L.room, first := L.first, next := L.next, last := L.last, es := rowPk k pg : LSt }
 seq).sent
 at').sumT),
 SV.d
 (Value.int IntKind.i64
 (ackM
 (ofM (rowMi n (miF f))
 (takeP
 { room := L.room, first := L.first, next := L.next, last := L.last, es := rowPk k pg : LSt }
 seq).mi)
 (takeP
 { room := L.room, first := L.first, next := L.next, last := L.last, es := rowPk k pg : LSt }
 seq).size
 (takeP
 { room := L.room, first := L.first, next := L.next, last := L.last, es := rowPk k pg : LSt }
 seq).sent
 at').sumR),
 SV.d
 (Value.int IntKind.i64
 (ackM
 (ofM (rowMi n (miF f))
 (takeP
 { room := L.room, first := L.first, next := L.next, last := L.last, es := rowPk k pg : LSt }
 seq).mi)
 (takeP
 { room := L.room, first := L.first, next := L.next, last := L.last, es := rowPk k pg : LSt }
 seq).size
 (takeP
 { room := L.room, first := L.first, next := L.next, last := L.last, es := rowPk k pg : LSt }
 seq).sent
 at').sumTT),
 SV.d
 (Value.int IntKind.i64
 (ackM
 (ofM (rowMi n (miF f))
 (takeP
 { room := L.room, first := L.first, next := L.next, last := L.last, es := rowPk k pg : LSt }
 seq).mi)
 (takeP
 { room := L.room, first := L.first, next := L.next, last := L.last, es := rowPk k pg : LSt }
 seq).size
 (takeP
 { room := L.room, first := L.first, next := L.next, last := L.last, es := rowPk k pg : LSt }
 seq).sent
 at').sumTR),
 SV.d
 (Value.int IntKind.i64
 (ackM
 (ofM (rowMi n (miF f))
 (takeP
 { room := L.room, first := L.first, next := L.next, last := L.last, es := rowPk k pg : LSt }
 seq).mi)
 (takeP
 { room := L.room, first := L.first, next := L.next, last := L.last, es := rowPk k pg : LSt }
 seq).size
 (takeP
 { room := L.room, first := L.first, next := L.next, last := L.last, es := rowPk k pg : LSt }
 seq).sent
 at').sumRR)],
 AB.row 36 4
 (rowPk
 (rowPk
 (takeL
 { room := L.room, first := L.first, next := L.next, last := L.last, es := rowPk k pg : LSt }
 seq).es.length
 (pkG
 (takeL
 { room := L.room, first := L.first, next := L.next, last := L.last, es := rowPk k pg : LSt }
 seq).es)).length
 (pkG
 (rowPk
 (takeL
 { room := L.room, first := L.first, next := L.next, last := L.last, es := rowPk k pg : LSt }
 seq).es.length
 (pkG
 (takeL
 { room := L.room, first := L.first, next := L.next, last := L.last, es := rowPk k pg : LSt }
 seq).es)))).length
 (pkG
 (rowPk
 (rowPk
 (takeL
 { room := L.room, first := L.first, next := L.next, last := L.last, es := rowPk k pg : LSt }
 seq).es.length
 (pkG
 (takeL
 { room := L.room, first := L.first, next := L.next, last := L.last, es := rowPk k pg : LSt }
 seq).es)).length
 (pkG
 (rowPk
 (takeL
 { room := L.room, first := L.first, next := L.next, last := L.last, es := rowPk k pg : LSt }
 seq).es.length
 (pkG
 (takeL
 { room := L.room, first := L.first, next := L.next, last := L.last, es := rowPk k pg : LSt }
 seq).es))))),
 AB.row 80 15
 (putM (rowMi (rowMi n (miF f)).length (miG (rowMi n (miF f))))
 (ackM
 (ofM (rowMi n (miF f))
 (takeP
 { room := L.room, first := L.first, next := L.next, last := L.last, es := rowPk k pg : LSt }
 seq).mi)
 (takeP
 { room := L.room, first := L.first, next := L.next, last := L.last, es := rowPk k pg : LSt }
 seq).size
 (takeP
 { room := L.room, first := L.first, next := L.next, last := L.last, es := rowPk k pg : LSt }
 seq).sent
 at')).length
 (miG
 (putM (rowMi (rowMi n (miF f)).length (miG (rowMi n (miF f))))
 (ackM
 (ofM (rowMi n (miF f))
 (takeP
 { room := L.room, first := L.first, next := L.next, last := L.last, es := rowPk k pg : LSt }
 seq).mi)
 (takeP
 { room := L.room, first := L.first, next := L.next, last := L.last, es := rowPk k pg : LSt }
 seq).size
 (takeP
 { room := L.room, first := L.first, next := L.next, last := L.last, es := rowPk k pg : LSt }
 seq).sent
 at')))])))))))))).both
 (T.need
 (some
 (AB.cells 36
 [SV.d
 (Value.int IntKind.u64
 (takeP
 { room := L.room, first := L.first, next := L.next, last := L.last, es := rowPk k pg : LSt }
 seq).seq),
 SV.d
 (Value.int IntKind.i64
 (takeP
 { room := L.room, first := L.first, next := L.next, last := L.last, es := rowPk k pg : LSt }
 seq).mi),
 SV.d
 (Value.int IntKind.i64
 (takeP
 { room := L.room, first := L.first, next := L.next, last := L.last, es := rowPk k pg : LSt }
 seq).size),
 SV.d
 (Value.int IntKind.i64
 (takeP
 { room := L.room, first := L.first, next := L.next, last := L.last, es := rowPk k pg : LSt }
 seq).sent)]) =
 some
 (AB.cells 36
 [SV.d
 (Value.int IntKind.u64
 (takeP
 { room := L.room, first := L.first, next := L.next, last := L.last, es := rowPk k pg : LSt }
 seq).seq),
 SV.d
 (Value.int IntKind.i64
 (takeP
 { room := L.room, first := L.first, next := L.next, last := L.last, es := rowPk k pg : LSt }
 seq).mi),
 SV.d
 (Value.int IntKind.i64
 (takeP
 { room := L.room, first := L.first, next := L.next, last := L.last, es := rowPk k pg : LSt }
 seq).size),
 SV.d
 (Value.int IntKind.i64
 (takeP
 { room := L.room, first := L.first, next := L.next, last := L.last, es := rowPk k pg : LSt }
 seq).sent)]))
 (T.need
 (some
 (AB.cells 36
 [SV.d
 (Value.int IntKind.u64
 (takeP
 { room := L.room, first := L.first, next := L.next, last := L.last, es := rowPk k pg : LSt }
 seq).seq),
 SV.d
 (Value.int IntKind.i64
 (takeP
 { room := L.room, first := L.first, next := L.next, last := L.last, es := rowPk k pg : LSt }
 seq).mi),
 SV.d
 (Value.int IntKind.i64
 (takeP
 { room := L.room, first := L.first, next := L.next, last := L.last, es := rowPk k pg : LSt }
 seq).size),
 SV.d
 (Value.int IntKind.i64
 (takeP
 { room := L.room, first := L.first, next := L.next, last := L.last, es := rowPk k pg : LSt }
 seq).sent)]) =
 some
 (AB.cells 36
 [SV.d
 (Value.int IntKind.u64
 (takeP
 { room := L.room, first := L.first, next := L.next, last := L.last, es := rowPk k pg : LSt }
 seq).seq),
 SV.d
 (Value.int IntKind.i64
 (takeP
 { room := L.room, first := L.first, next := L.next, last := L.last, es := rowPk k pg : LSt }
 seq).mi),
 SV.d
 (Value.int IntKind.i64
 (takeP
 { room := L.room, first := L.first, next := L.next, last := L.last, es := rowPk k pg : LSt }
 seq).size),
 SV.d
 (Value.int IntKind.i64
 (takeP
 { room := L.room, first := L.first, next := L.next, last := L.last, es := rowPk k pg : LSt }
 seq).sent)]))
 (T.need
 (some
 (AB.cells 36
 [SV.d
 (Value.int IntKind.u64
 (takeP
 { room := L.room, first := L.first, next := L.next, last := L.last, es := rowPk k pg : LSt }
 seq).seq),
 SV.d
 (Value.int IntKind.i64
 (takeP
 { room := L.room, first := L.first, next := L.next, last := L.last, es := rowPk k pg : LSt }
 seq).mi),
 SV.d
 (Value.int IntKind.i64
 (takeP
 { room := L.room, first := L.first, next := L.next, last := L.last, es := rowPk k pg : LSt }
 seq).size),
 SV.d
 (Value.int IntKind.i64
 (takeP
 { room := L.room, first := L.first, next := L.next, last := L.last, es := rowPk k pg : LSt }
 seq).sent)]) =
 some
 (AB.cells 36
 [SV.d
 (Value.int IntKind.u64
 (takeP
 { room := L.room, first := L.first, next := L.next, last := L.last, es := rowPk k pg : LSt }
 seq).seq),
 SV.d
 (Value.int IntKind.i64
 (takeP
 { room := L.room, first := L.first, next := L.next, last := L.last, es := rowPk k pg : LSt }
 seq).mi),
 SV.d
 (Value.int IntKind.i64
 (takeP
 { room := L.room, first := L.first, next := L.next, last := L.last, es := rowPk k pg : LSt }
 seq).size),
 SV.d
 (Value.int IntKind.i64
 (takeP
 { room := L.room, first := L.first, next := L.next, last := L.last, es := rowPk k pg : LSt }
 seq).sent)]))
 (T.need
 (((n = n ∧ MiRow n (miF f)) ∧
 (takeL
 { room := L.room, first := L.first, next := L.next, last := L.last, es := rowPk k pg : LSt }
 seq).es.length =
 (takeL
 { room := L.room, first := L.first, next := L.next, last := L.last, es := rowPk k pg : LSt }
 seq).es.length ∧
 PkRow
 (takeL
 { room := L.room, first := L.first, next := L.next, last := L.last, es := rowPk k pg : LSt }
 seq).es.length
 (pkG
 (takeL
 { room := L.room, first := L.first, next := L.next, last := L.last, es := rowPk k pg : LSt }
 seq).es)) ∧
 (rowMi n (miF f)).length ≤ 64)
 (T.need
 (some
 (AB.cells 36
 [SV.d
 (Value.int IntKind.u64
 (takeP
 { room := L.room, first := L.first, next := L.next, last := L.last, es := rowPk k pg : LSt }
 seq).seq),
 SV.d
 (Value.int IntKind.i64
 (takeP
 { room := L.room, first := L.first, next := L.next, last := L.last, es := rowPk k pg : LSt }
 seq).mi),
 SV.d
 (Value.int IntKind.i64
 (takeP
 { room := L.room, first := L.first, next := L.next, last := L.last, es := rowPk k pg : LSt }
 seq).size),
 SV.d
 (Value.int IntKind.i64
 (takeP
 { room := L.room, first := L.first, next := L.next, last := L.last, es := rowPk k pg : LSt }
 seq).sent)]) =
 some
 (AB.cells 36
 [SV.d
 (Value.int IntKind.u64
 (takeP
 { room := L.room, first := L.first, next := L.next, last := L.last, es := rowPk k pg : LSt }
 seq).seq),
 SV.d
 (Value.int IntKind.i64
 (takeP
 { room := L.room, first := L.first, next := L.next, last := L.last, es := rowPk k pg : LSt }
 seq).mi),
 SV.d
 (Value.int IntKind.i64
 (takeP
 { room := L.room, first := L.first, next := L.next, last := L.last, es := rowPk k pg : LSt }
 seq).size),
 SV.d
 (Value.int IntKind.i64
 (takeP
 { room := L.room, first := L.first, next := L.next, last := L.last, es := rowPk k pg : LSt }
 seq).sent)]))
 (T.need
 (some
 (AB.cells 36
 [SV.d
 (Value.int IntKind.u64
 (takeP
 { room := L.room, first := L.first, next := L.next, last := L.last, es := rowPk k pg : LSt }
 seq).seq),
 SV.d
 (Value.int IntKind.i64
 (takeP
 { room := L.room, first := L.first, next := L.next, last := L.last, es := rowPk k pg : LSt }
 seq).mi),
 SV.d
 (Value.int IntKind.i64
 (takeP
 { room := L.room, first := L.first, next := L.next, last := L.last, es := rowPk k pg : LSt }
 seq).size),
 SV.d
 (Value.int IntKind.i64
 (takeP
 { room := L.room, first := L.first, next := L.next, last := L.last, es := rowPk k pg : LSt }
 seq).sent)]) =
 some
 (AB.cells 36
 [SV.d
 (Value.int IntKind.u64
 (takeP
 { room := L.room, first := L.first, next := L.next, last := L.last, es := rowPk k pg : LSt }
 seq).seq),
 SV.d
 (Value.int IntKind.i64
 (takeP
 { room := L.room, first := L.first, next := L.next, last := L.last, es := rowPk k pg : LSt }
 seq).mi),
 SV.d
 (Value.int IntKind.i64
 (takeP
 { room := L.room, first := L.first, next := L.next, last := L.last, es := rowPk k pg : LSt }
 seq).size),
 SV.d
 (Value.int IntKind.i64
 (takeP
 { room := L.room, first := L.first, next := L.next, last := L.last, es := rowPk k pg : LSt }
 seq).sent)]))
 (T.need
 ((ackE
 (ofM (rowMi n (miF f))
 (takeP
 { room := L.room, first := L.first, next := L.next, last := L.last, es := rowPk k pg : LSt }
 seq).mi)
 (takeP
 { room := L.room, first := L.first, next := L.next, last := L.last, es := rowPk k pg : LSt }
 seq).size
 (takeP
 { room := L.room, first := L.first, next := L.next, last := L.last, es := rowPk k pg : LSt }
 seq).sent
 at' ==
 0) =
 true)
 (T.need
 ((((rowMi n (miF f)).length = (rowMi n (miF f)).length ∧
 MiRow (rowMi n (miF f)).length (miG (rowMi n (miF f)))) ∧
 (rowPk
 (takeL
 { room := L.room, first := L.first, next := L.next, last := L.last, es := rowPk k pg : LSt }
 seq).es.length
 (pkG
 (takeL
 { room := L.room, first := L.first, next := L.next, last := L.last, es := rowPk k pg : LSt }
 seq).es)).length =
 (rowPk
 (takeL
 { room := L.room, first := L.first, next := L.next, last := L.last, es := rowPk k pg : LSt }
 seq).es.length
 (pkG
 (takeL
 { room := L.room, first := L.first, next := L.next, last := L.last, es := rowPk k pg : LSt }
 seq).es)).length ∧
 PkRow
 (rowPk
 (takeL
 { room := L.room, first := L.first, next := L.next, last := L.last, es := rowPk k pg : LSt }
 seq).es.length
 (pkG
 (takeL
 { room := L.room, first := L.first, next := L.next, last := L.last, es := rowPk k pg : LSt }
 seq).es)).length
 (pkG
 (rowPk
 (takeL
 { room := L.room, first := L.first, next := L.next, last := L.last, es := rowPk k pg : LSt }
 seq).es.length
 (pkG
 (takeL
 { room := L.room, first := L.first, next := L.next, last := L.last, es := rowPk k pg : LSt }
 seq).es)))) ∧
 (rowMi (rowMi n (miF f)).length (miG (rowMi n (miF f)))).length ≤ 64)
 (T.ret
 (AV.tup
 [EV.agg
 [SV.d
 (Value.int IntKind.u64
 (takeP
 { room := L.room, first := L.first, next := L.next, last := L.last, es := rowPk k pg : LSt }
 seq).seq),
 SV.d
 (Value.int IntKind.i64
 (takeP
 { room := L.room, first := L.first, next := L.next, last := L.last, es := rowPk k pg : LSt }
 seq).mi),
 SV.d
 (Value.int IntKind.i64
 (takeP
 { room := L.room, first := L.first, next := L.next, last := L.last, es := rowPk k pg : LSt }
 seq).size),
 SV.d
 (Value.int IntKind.i64
 (takeP
 { room := L.room, first := L.first, next := L.next, last := L.last, es := rowPk k pg : LSt }
 seq).sent)],
 EV.s (SV.c (Value.int IntKind.i64 0))],
 [AB.cells 72
 [SV.ptr 1 0,
 SV.sl 11 15 0
 (putM (rowMi (rowMi n (miF f)).length (miG (rowMi n (miF f))))
 (ackM
 (ofM (rowMi n (miF f))
 (takeP
 { room := L.room, first := L.first, next := L.next, last := L.last, es := rowPk k pg : LSt }
 seq).mi)
 (takeP
 { room := L.room, first := L.first, next := L.next, last := L.last, es := rowPk k pg : LSt }
 seq).size
 (takeP
 { room := L.room, first := L.first, next := L.next, last := L.last, es := rowPk k pg : LSt }
 seq).sent
 at')).length
 0,
 SV.d (Value.int IntKind.i64 id), SV.d (Value.int IntKind.i64 tmo),
 SV.d (Value.int IntKind.i64 at')],
 AB.cells 44
 [SV.d
 (Value.int IntKind.i64
 (takeL
 { room := L.room, first := L.first, next := L.next, last := L.last, es := rowPk k pg : LSt }
 seq).1),
 SV.d
 (Value.int IntKind.u64
 (takeL
 { room := L.room, first := L.first, next := L.next, last := L.last, es := rowPk k pg : LSt }
 seq).2),
 SV.d
 (Value.int IntKind.u64
 (takeL
 { room := L.room, first := L.first, next := L.next, last := L.last, es := rowPk k pg : LSt }
 seq).3),
 SV.d
 (Value.int IntKind.i64
 (takeL
 { room := L.room, first := L.first, next := L.next, last := L.last, es := rowPk k pg : LSt }
 seq).4),
 SV.sl 10 4 0
 (rowPk
 (rowPk
 (takeL
 { room := L.room, first := L.first, next := L.next, last := L.last, es := rowPk k pg : LSt }
 seq).es.length
 (pkG
 (takeL
 { room := L.room, first := L.first, next := L.next, last := L.last, es := rowPk k pg : LSt }
 seq).es)).length
 (pkG
 (rowPk
 (takeL
 { room := L.room, first := L.first, next := L.next, last := L.last, es := rowPk k pg : LSt }
 seq).es.length
 (pkG
 (takeL
 { room := L.room, first := L.first, next := L.next, last := L.last, es := rowPk k pg : LSt }
 seq).es)))).length
 0],
 AB.dead, AB.dead,
 AB.cells 36
 [SV.d
 (Value.int IntKind.u64
 (takeP
 { room := L.room, first := L.first, next := L.next, last := L.last, es := rowPk k pg : LSt }
 seq).seq),
 SV.d
 (Value.int IntKind.i64
 (takeP
 { room := L.room, first := L.first, next := L.next, last := L.last, es := rowPk k pg : LSt }
 seq).mi),
 SV.d
 (Value.int IntKind.i64
 (takeP
 { room := L.room, first := L.first, next := L.next, last := L.last, es := rowPk k pg : LSt }
 seq).size),
 SV.d
 (Value.int IntKind.i64
 (takeP
 { room := L.room, first := L.first, next := L.next, last := L.last, es := rowPk k pg : LSt }
 seq).sent)],
 AB.dead,
 AB.cells 36
 [SV.d
 (Value.int IntKind.u64
 (takeP
 { room := L.room, first := L.first, next := L.next, last := L.last, es := rowPk k pg : LSt }
 seq).seq),
 SV.d
 (Value.int IntKind.i64
 (takeP
 { room := L.room, first := L.first, next := L.next, last := L.last, es := rowPk k pg : LSt }
 seq).mi),
 SV.d
 (Value.int IntKind.i64
 (takeP
 { room := L.room, first := L.first, next := L.next, last := L.last, es := rowPk k pg : LSt }
 seq).size),
 SV.d
 (Value.int IntKind.i64
 (takeP
 { room := L.room, first := L.first, next := L.next, last := L.last, es := rowPk k pg : LSt }
 seq).sent)],
 AB.cells 80
 [SV.d
 (Value.int IntKind.i64
 (ackM
 (ofM (rowMi n (miF f))
 (takeP
 { room := L.room, first := L.first, next := L.next, last := L.last, es := rowPk k pg : LSt }
 seq).mi)
 (takeP
 { room := L.room, first := L.first, next := L.next, last := L.last, es := rowPk k pg : LSt }
 seq).size
 (takeP
 { room := L.room, first := L.first, next := L.next, last := L.last, es := rowPk k pg : LSt }
 seq).sent
 at').id),
 SV.d
 (Value.int IntKind.i64
 (ackM
 (ofM (rowMi n (miF f))
 (takeP
 { room := L.room, first := L.first, next := L.next, last := L.last, es := rowPk k pg : LSt }
 seq).mi)
 (takeP
 { room := L.room, first := L.first, next := L.next, last := L.last, es := rowPk k pg : LSt }
 seq).size
 (takeP
 { room := L.room, first := L.first, next := L.next, last := L.last, es := rowPk k pg : LSt }
 seq).sent
 at').frm),
 SV.d
 (Value.int IntKind.i64
 (ackM
 (ofM (rowMi n (miF f))
 (takeP
 { room := L.room, first := L.first, next := L.next, last := L.last, es := rowPk k pg : LSt }
 seq).mi)
 (takeP
 { room := L.room, first := L.first, next := L.next, last := L.last, es := rowPk k pg : LSt }
 seq).size
 (takeP
 { room := L.room, first := L.first, next := L.next, last := L.last, es := rowPk k pg : LSt }
 seq).sent
 at').to),
 SV.d
 (Value.int IntKind.i64
 (ackM
 (ofM (rowMi n (miF f))
 (takeP
 { room := L.room, first := L.first, next := L.next, last := L.last, es := rowPk k pg : LSt }
 seq).mi)
 (takeP
 { room := L.room, first := L.first, next := L.next, last := L.last, es := rowPk k pg : LSt }
 seq).size
 (takeP
 { room := L.room, first := L.first, next := L.next, last := L.last, es := rowPk k pg : LSt }
 seq).sent
 at').sent),
 SV.d
 (Value.int IntKind.i64
 (ackM
 (ofM (rowMi n (miF f))
 (takeP
 { room := L.room, first := L.first, next := L.next, last := L.last, es := rowPk k pg : LSt }
 seq).mi)
 (takeP
 { room := L.room, first := L.first, next := L.next, last := L.last, es := rowPk k pg : LSt }
 seq).size
 (takeP
 { room := L.room, first := L.first, next := L.next, last := L.last, es := rowPk k pg : LSt }
 seq).sent
 at').acked),
 SV.d
 (Value.int IntKind.i64
 (ackM
 (ofM (rowMi n (miF f))
 (takeP
 { room := L.room, first := L.first, next := L.next, last := L.last, es := rowPk k pg : LSt }
 seq).mi)
 (takeP
 { room := L.room, first := L.first, next := L.next, last := L.last, es := rowPk k pg : LSt }
 seq).size
 (takeP
 { room := L.room, first := L.first, next := L.next, last := L.last, es := rowPk k pg : LSt }
 seq).sent
 at').lost),
 SV.d
 (Value.int IntKind.i64
 (ackM
 (ofM (rowMi n (miF f))
 (takeP
 { room := L.room, first := L.first, next := L.next, last := L.last, es := rowPk k pg : LSt }
 seq).mi)
 (takeP
 { room := L.room, first := L.first, next := L.next, last := L.last, es := rowPk k pg : LSt }
 seq).size
 (takeP
 { room := L.room, first := L.first, next := L.next, last := L.last, es := rowPk k pg : LSt }
 seq).sent
 at').packets),
 SV.d
 (Value.int IntKind.i64
 (ackM
 (ofM (rowMi n (miF f))
 (takeP
 { room := L.room, first := L.first, next := L.next, last := L.last, es := rowPk k pg : LSt }
 seq).mi)
 (takeP
 { room := L.room, first := L.first, next := L.next, last := L.last, es := rowPk k pg : LSt }
 seq).size
 (takeP
 { room := L.room, first := L.first, next := L.next, last := L.last, es := rowPk k pg : LSt }
 seq).sent
 at').hits),
 SV.d
 (Value.int IntKind.i64
 (ackM
 (ofM (rowMi n (miF f))
 (takeP
 { room := L.room, first := L.first, next := L.next, last := L.last, es := rowPk k pg : LSt }
 seq).mi)
 (takeP
 { room := L.room, first := L.first, next := L.next, last := L.last, es := rowPk k pg : LSt }
 seq).size
 (takeP
 { room := L.room, first := L.first, next := L.next, last := L.last, es := rowPk k pg : LSt }
 seq).sent
 at').drops),
 SV.d
 (Value.int IntKind.i64
 (ackM
 (ofM (rowMi n (miF f))
 (takeP
 { room := L.room, first := L.first, next := L.next, last := L.last, es := rowPk k pg : LSt }
 seq).mi)
 (takeP
 { room := L.room, first := L.first, next := L.next, last := L.last, es := rowPk k pg : LSt }
 seq).size
 (takeP
 { room := L.room, first := L.first, next := L.next, last := L.last, es := rowPk k pg : LSt }
 seq).sent
 at').n),
 SV.d
 (Value.int IntKind.i64
 (ackM
 (ofM (rowMi n (miF f))
 (takeP
 { room := L.room, first := L.first, next := L.next, last := L.last, es := rowPk k pg : LSt }
 seq).mi)
 (takeP
 { room := L.room, first := L.first, next := L.next, last := L.last, es := rowPk k pg : LSt }
 seq).size
 (takeP
 { room := L.room, first := L.first, next := L.next, last := L.last, es := rowPk k pg : LSt }
 seq).sent
 at').sumT),
 SV.d
 (Value.int IntKind.i64
 (ackM
 (ofM (rowMi n (miF f))
 (takeP
 { room := L.room, first := L.first, next := L.next, last := L.last, es := rowPk k pg : LSt }
 seq).mi)
 (takeP
 { room := L.room, first := L.first, next := L.next, last := L.last, es := rowPk k pg : LSt }
 seq).size
 (takeP
 { room := L.room, first := L.first, next := L.next, last := L.last, es := rowPk k pg : LSt }
 seq).sent
 at').sumR),
 SV.d
 (Value.int IntKind.i64
 (ackM
 (ofM (rowMi n (miF f))
 (takeP
 { room := L.room, first := L.first, next := L.next, last := L.last, es := rowPk k pg : LSt }
 seq).mi)
 (takeP
 { room := L.room, first := L.first, next := L.next, last := L.last, es := rowPk k pg : LSt }
 seq).size
 (takeP
 { room := L.room, first := L.first, next := L.next, last := L.last, es := rowPk k pg : LSt }
 seq).sent
 at').sumTT),
 SV.d
 (Value.int IntKind.i64
 (ackM
 (ofM (rowMi n (miF f))
 (takeP
 { room := L.room, first := L.first, next := L.next, last := L.last, es := rowPk k pg : LSt }
 seq).mi)
 (takeP
 { room := L.room, first := L.first, next := L.next, last := L.last, es := rowPk k pg : LSt }
 seq).size
 (takeP
 { room := L.room, first := L.first, next := L.next, last := L.last, es := rowPk k pg : LSt }
 seq).sent
 at').sumTR),
 SV.d
 (Value.int IntKind.i64
 (ackM
 (ofM (rowMi n (miF f))
 (takeP
 { room := L.room, first := L.first, next := L.next, last := L.last, es := rowPk k pg : LSt }
 seq).mi)
 (takeP
 { room := L.room, first := L.first, next := L.next, last := L.last, es := rowPk k pg : LSt }
 seq).size
 (takeP
 { room := L.room, first := L.first, next := L.next, last := L.last, es := rowPk k pg : LSt }
 seq).sent
 at').sumRR)],
 AB.dead, AB.dead,
 AB.row 36 4
 (rowPk
 (rowPk
 (takeL
 { room := L.room, first := L.first, next := L.next, last := L.last, es := rowPk k pg : LSt }
 seq).es.length
 (pkG
 (takeL
 { room := L.room, first := L.first, next := L.next, last := L.last, es := rowPk k pg : LSt }
 seq).es)).length
 (pkG
 (rowPk
 (takeL
 { room := L.room, first := L.first, next := L.next, last := L.last, es := rowPk k pg : LSt }
 seq).es.length
 (pkG
 (takeL
 { room := L.room, first := L.first, next := L.next, last := L.last, es := rowPk k pg : LSt }
 seq).es)))).length
 (pkG
 (rowPk
 (rowPk
 (takeL
 { room := L.room, first := L.first, next := L.next, last := L.last, es := rowPk k pg : LSt }
 seq).es.length
 (pkG
 (takeL
 { room := L.room, first := L.first, next := L.next, last := L.last, es := rowPk k pg : LSt }
 seq).es)).length
 (pkG
 (rowPk
 (takeL
 { room := L.room, first := L.first, next := L.next, last := L.last, es := rowPk k pg : LSt }
 seq).es.length
 (pkG
 (takeL
 { room := L.room, first := L.first, next := L.next, last := L.last, es := rowPk k pg : LSt }
 seq).es))))),
 AB.row 80 15
 (putM (rowMi (rowMi n (miF f)).length (miG (rowMi n (miF f))))
 (ackM
 (ofM (rowMi n (miF f))
 (takeP
 { room := L.room, first := L.first, next := L.next, last := L.last, es := rowPk k pg : LSt }
 seq).mi)
 (takeP
 { room := L.room, first := L.first, next := L.next, last := L.last, es := rowPk k pg : LSt }
 seq).size
 (takeP
 { room := L.room, first := L.first, next := L.next, last := L.last, es := rowPk k pg : LSt }
 seq).sent
 at')).length
 (miG
 (putM (rowMi (rowMi n (miF f)).length (miG (rowMi n (miF f))))
 (ackM
 (ofM (rowMi n (miF f))
 (takeP
 { room := L.room, first := L.first, next := L.next, last := L.last, es := rowPk k pg : LSt }
 seq).mi)
 (takeP
 { room := L.room, first := L.first, next := L.next, last := L.last, es := rowPk k pg : LSt }
 seq).size
 (takeP
 { room := L.room, first := L.first, next := L.next, last := L.last, es := rowPk k pg : LSt }
 seq).sent
 at')))]))))))))))))))
 (T.ret
 (AV.tup
 [EV.agg
 [SV.c (Value.int IntKind.u64 0), SV.c (Value.int IntKind.i64 0), SV.c (Value.int IntKind.i64 0),
 SV.c (Value.int IntKind.i64 0)],
 EV.s (SV.c (Value.int IntKind.i64 10))],
 [AB.cells 72
 [SV.ptr 1 0, SV.sl 3 15 0 n 0, SV.d (Value.int IntKind.i64 id), SV.d (Value.int IntKind.i64 tmo),
 SV.d (Value.int IntKind.i64 now)],
 AB.cells 44
 [SV.d (Value.int IntKind.i64 L.room), SV.d (Value.int IntKind.u64 L.first),
 SV.d (Value.int IntKind.u64 L.next), SV.d (Value.int IntKind.i64 L.last), SV.sl 2 4 0 k 0],
 AB.row 36 4 k pg, AB.row 80 15 n (miF f)])))
 (T.ret
 (AV.tup
 [EV.agg
 [SV.c (Value.int IntKind.u64 0), SV.c (Value.int IntKind.i64 0), SV.c (Value.int IntKind.i64 0),
 SV.c (Value.int IntKind.i64 0)],
 EV.s (SV.c (Value.int IntKind.i64 10))],
 [AB.cells 72
 [SV.ptr 1 0, SV.sl 3 15 0 n 0, SV.d (Value.int IntKind.i64 id), SV.d (Value.int IntKind.i64 tmo),
 SV.d (Value.int IntKind.i64 now)],
 AB.cells 44
 [SV.d (Value.int IntKind.i64 L.room), SV.d (Value.int IntKind.u64 L.first),
 SV.d (Value.int IntKind.u64 L.next), SV.d (Value.int IntKind.i64 L.last), SV.sl 2 4 0 k 0],
 AB.row 36 4 k pg, AB.row 80 15 n (miF f)])) := by kernel_rfl


noncomputable def t53 (L : LSt) (k : Nat) (pg : Nat → List Value) (n : Nat) (f : Nat → Mi) (now id tmo seq at' : Int) : T (AV × Heap) := callT Try.prog (entL e53) 4 53 [.e (.s (.ptr 0 0)), .d (.int .u64 seq), .d (.int .i64 at')] (rH L k pg n (miF f) now id tmo) fun r H' => .ret (r, H')

theorem t53_eq (L : LSt) (k : Nat) (pg : Nat → List Value) (n : Nat) (f : Nat → Mi) (now id tmo seq at' : Int) : t53 L k pg n f now id tmo seq at' =
 T.ite (decide (at' ≥ 0))
 (T.ite (decide (at' ≤ 1099511627776))
 (T.ite (decide (at' < now))
 (T.ret
 (AV.tup
 [EV.agg
 [SV.c (Value.int IntKind.u64 0), SV.c (Value.int IntKind.i64 0), SV.c (Value.int IntKind.i64 0),
 SV.c (Value.int IntKind.i64 0)],
 EV.s (SV.c (Value.int IntKind.i64 10))],
 [AB.cells 72
 [SV.ptr 1 0, SV.sl 3 15 0 n 0, SV.d (Value.int IntKind.i64 id), SV.d (Value.int IntKind.i64 tmo),
 SV.d (Value.int IntKind.i64 now)],
 AB.cells 44
 [SV.d (Value.int IntKind.i64 L.room), SV.d (Value.int IntKind.u64 L.first),
 SV.d (Value.int IntKind.u64 L.next), SV.d (Value.int IntKind.i64 L.last), SV.sl 2 4 0 k 0],
 AB.row 36 4 k pg, AB.row 80 15 n (miF f)]))
 (T.need
 ((k = k ∧ PkRow k pg) ∧
 { room := L.room, first := L.first, next := L.next, last := L.last, es := rowPk k pg : LSt }.Ok)
 (T.ite
 (takeE { room := L.room, first := L.first, next := L.next, last := L.last, es := rowPk k pg : LSt } seq != 0)
 (T.ret
 (AV.tup
 [EV.agg
 [SV.c (Value.int IntKind.u64 0), SV.c (Value.int IntKind.i64 0), SV.c (Value.int IntKind.i64 0),
 SV.c (Value.int IntKind.i64 0)],
 EV.s
 (SV.d
 (Value.int IntKind.i64
 (takeE
 { room := L.room, first := L.first, next := L.next, last := L.last, es := rowPk k pg : LSt }
 seq)))],
 [AB.cells 72
 [SV.ptr 1 0, SV.sl 3 15 0 n 0, SV.d (Value.int IntKind.i64 id), SV.d (Value.int IntKind.i64 tmo),
 SV.d (Value.int IntKind.i64 now)],
 AB.cells 44
 [SV.d
 (Value.int IntKind.i64
 (takeL
 { room := L.room, first := L.first, next := L.next, last := L.last, es := rowPk k pg : LSt }
 seq).room),
 SV.d
 (Value.int IntKind.u64
 (takeL
 { room := L.room, first := L.first, next := L.next, last := L.last, es := rowPk k pg : LSt }
 seq).first),
 SV.d
 (Value.int IntKind.u64
 (takeL
 { room := L.room, first := L.first, next := L.next, last := L.last, es := rowPk k pg : LSt }
 seq).next),
 SV.d
 (Value.int IntKind.i64
 (takeL
 { room := L.room, first := L.first, next := L.next, last := L.last, es := rowPk k pg : LSt }
 seq).last),
 SV.sl 5 4 0
 (takeL
 { room := L.room, first := L.first, next := L.next, last := L.last, es := rowPk k pg : LSt }
 seq).es.length
 0],
 AB.dead, AB.row 80 15 n (miF f),
 AB.cells 36
 [SV.c (Value.int IntKind.u64 0), SV.c (Value.int IntKind.i64 0), SV.c (Value.int IntKind.i64 0),
 SV.c (Value.int IntKind.i64 0)],
 AB.row 36 4
 (takeL { room := L.room, first := L.first, next := L.next, last := L.last, es := rowPk k pg : LSt }
 seq).es.length
 (pkG
 (takeL { room := L.room, first := L.first, next := L.next, last := L.last, es := rowPk k pg : LSt }
 seq).es)]))
 ((T.need
 (((n = n ∧ MiRow n (miF f)) ∧
 (takeL { room := L.room, first := L.first, next := L.next, last := L.last, es := rowPk k pg : LSt }
 seq).es.length =
 (takeL
 { room := L.room, first := L.first, next := L.next, last := L.last, es := rowPk k pg : LSt }
 seq).es.length ∧
 PkRow
 (takeL
 { room := L.room, first := L.first, next := L.next, last := L.last, es := rowPk k pg : LSt }
 seq).es.length
 (pkG
 (takeL
 { room := L.room, first := L.first, next := L.next, last := L.last, es := rowPk k pg : LSt }
 seq).es)) ∧
 (rowMi n (miF f)).length ≤ 64)
 (T.need
 (some
 (AB.cells 36
 [SV.d
 (Value.int IntKind.u64
 (takeP
 { room := L.room, first := L.first, next := L.next, last := L.last, es := rowPk k pg : LSt }
 seq).seq),
 SV.d
 (Value.int IntKind.i64
 (takeP
 { room := L.room, first := L.first, next := L.next, last := L.last, es := rowPk k pg : LSt }
 seq).mi),
 SV.d
 (Value.int IntKind.i64
 (takeP
 { room := L.room, first := L.first, next := L.next, last := L.last, es := rowPk k pg : LSt }
 seq).size),
 SV.d
 (Value.int IntKind.i64
 (takeP
 { room := L.room, first := L.first, next := L.next, last := L.last, es := rowPk k pg : LSt }
 seq).sent)]) =
 some
 (AB.cells 36
 [SV.d
 (Value.int IntKind.u64
 (takeP
 { room := L.room, first := L.first, next := L.next, last := L.last, es := rowPk k pg : LSt }
 seq).seq),
 SV.d
 (Value.int IntKind.i64
 (takeP
 { room := L.room, first := L.first, next := L.next, last := L.last, es := rowPk k pg : LSt }
 seq).mi),
 SV.d
 (Value.int IntKind.i64
 (takeP
 { room := L.room, first := L.first, next := L.next, last := L.last, es := rowPk k pg : LSt }
 seq).size),
 SV.d
 (Value.int IntKind.i64
 (takeP
 { room := L.room, first := L.first, next := L.next, last := L.last, es := rowPk k pg : LSt }
 seq).sent)]))
 ((T.need
 ((loseE
 (ofM (rowMi n (miF f))
 (takeP
 { room := L.room, first := L.first, next := L.next, last := L.last, es := rowPk k pg : LSt }
 seq).mi)
 (takeP
 { room := L.room, first := L.first, next := L.next, last := L.last, es := rowPk k pg : LSt }
 seq).size ==
 0) =
 true)
 (T.need
 ((((rowMi n (miF f)).length = (rowMi n (miF f)).length ∧
 MiRow (rowMi n (miF f)).length (miG (rowMi n (miF f)))) ∧
 (rowPk
 (takeL
 { room := L.room, first := L.first, next := L.next, last := L.last, es := rowPk k pg : LSt }
 seq).es.length
 (pkG
 (takeL
 { room := L.room, first := L.first, next := L.next, last := L.last, es := rowPk k pg : LSt }
 seq).es)).length =
 (rowPk
 (takeL
 { room := L.room, first := L.first, next := L.next, last := L.last, es := rowPk k pg : LSt }
 seq).es.length
 (pkG
 (takeL
 { room := L.room, first := L.first, next := L.next, last := L.last, es := rowPk k pg : LSt }
 seq).es)).length ∧
 PkRow
 (rowPk
 (takeL
 { room := L.room, first := L.first, next := L.next, last := L.last, es := rowPk k pg : LSt }
 seq).es.length
 (pkG
 (takeL
 { room := L.room, first := L.first, next := L.next, last := L.last, es := rowPk k pg : LSt }
 seq).es)).length
 (pkG
 (rowPk
 (takeL
 { room := L.room, first := L.first, next := L.next, last := L.last, es := rowPk k pg : LSt }
 seq).es.length
 (pkG
 (takeL
 { room := L.room, first := L.first, next := L.next, last := L.last, es := rowPk k pg : LSt }
 seq).es)))) ∧
 (rowMi (rowMi n (miF f)).length (miG (rowMi n (miF f)))).length ≤ 64)
 (T.ret
 (AV.tup
 [EV.agg
 [SV.d
 (Value.int IntKind.u64
 (takeP
 { room := L.room, first := L.first, next := L.next, last := L.last, es := rowPk k pg : LSt }
 seq).seq),
 SV.d
 (Value.int IntKind.i64
 (takeP
 { room := L.room, first := L.first, next := L.next, last := L.last, es := rowPk k pg : LSt }
 seq).mi),
 SV.d
 (Value.int IntKind.i64
 (takeP
 { room := L.room, first := L.first, next := L.next, last := L.last, es := rowPk k pg : LSt }
 seq).size),
 SV.d
 (Value.int IntKind.i64
 (takeP
 { room := L.room, first := L.first, next := L.next, last := L.last, es := rowPk k pg : LSt }
 seq).sent)],
 EV.s (SV.c (Value.int IntKind.i64 0))],
 [AB.cells 72
 [SV.ptr 1 0,
 SV.sl 11 15 0
 (putM (rowMi (rowMi n (miF f)).length (miG (rowMi n (miF f))))
 (loseM
 (ofM (rowMi n (miF f))
 (takeP
 { room := L.room, first := L.first, next := L.next, last := L.last, es := rowPk k pg : LSt }
 seq).mi)
 (takeP
 { room := L.room, first := L.first, next := L.next, last := L.last, es := rowPk k pg : LSt }
 seq).size)).length
 0,
 SV.d (Value.int IntKind.i64 id), SV.d (Value.int IntKind.i64 tmo),
 SV.d (Value.int IntKind.i64 at')],
 AB.cells 44
 [SV.d
 (Value.int IntKind.i64
 (takeL
 { room := L.room, first := L.first, next := L.next, last := L.last, es := rowPk k pg : LSt }
 seq).1),
 SV.d
 (Value.int IntKind.u64
 (takeL
 { room := L.room, first := L.first, next := L.next, last := L.last, es := rowPk k pg : LSt }
 seq).2),
 SV.d
 (Value.int IntKind.u64
 (takeL
 { room := L.room, first := L.first, next := L.next, last := L.last, es := rowPk k pg : LSt }
 seq).3),
 SV.d
 (Value.int IntKind.i64
 (takeL
 { room := L.room, first := L.first, next := L.next, last := L.last, es := rowPk k pg : LSt }
 seq).4),
 SV.sl 10 4 0
 (rowPk
 (rowPk
 (takeL
 { room := L.room, first := L.first, next := L.next, last := L.last, es := rowPk k pg : LSt }
 seq).es.length
 (pkG
 (takeL
 { room := L.room, first := L.first, next := L.next, last := L.last, es := rowPk k pg : LSt }
 seq).es)).length
 (pkG
 (rowPk
 (takeL
 { room := L.room, first := L.first, next := L.next, last := L.last, es := rowPk k pg : LSt }
 seq).es.length
 (pkG
 (takeL
 { room := L.room, first := L.first, next := L.next, last := L.last, es := rowPk k pg : LSt }
 seq).es)))).length
 0],
 AB.dead, AB.dead,
 AB.cells 36
 [SV.d
 (Value.int IntKind.u64
 (takeP
 { room := L.room, first := L.first, next := L.next, last := L.last, es := rowPk k pg : LSt }
 seq).seq),
 SV.d
 (Value.int IntKind.i64
 (takeP
 { room := L.room, first := L.first, next := L.next, last := L.last, es := rowPk k pg : LSt }
 seq).mi),
 SV.d
 (Value.int IntKind.i64
 (takeP
 { room := L.room, first := L.first, next := L.next, last := L.last, es := rowPk k pg : LSt }
 seq).size),
 SV.d
 (Value.int IntKind.i64
 (takeP
 { room := L.room, first := L.first, next := L.next, last := L.last, es := rowPk k pg : LSt }
 seq).sent)],
 AB.dead,
 AB.cells 36
 [SV.d
 (Value.int IntKind.u64
 (takeP
 { room := L.room, first := L.first, next := L.next, last := L.last, es := rowPk k pg : LSt }
 seq).seq),
 SV.d
 (Value.int IntKind.i64
 (takeP
 { room := L.room, first := L.first, next := L.next, last := L.last, es := rowPk k pg : LSt }
 seq).mi),
 SV.d
 (Value.int IntKind.i64
 (takeP
 { room := L.room, first := L.first, next := L.next, last := L.last, es := rowPk k pg : LSt }
 seq).size),
 SV.d
 (Value.int IntKind.i64
 (takeP
 { room := L.room, first := L.first, next := L.next, last := L.last, es := rowPk k pg : LSt }
 seq).sent)],
 AB.dead, AB.dead,
 AB.cells 80
 [SV.d
 (Value.int IntKind.i64
 (loseM
 (ofM (rowMi n (miF f))
 (takeP
 { room := L.room, first := L.first, next := L.next, last := L.last, es := rowPk k pg : LSt }
 seq).mi)
 (takeP
 { room := L.room, first := L.first, next := L.next, last := L.last, es := rowPk k pg : LSt }
 seq).size).id),
 SV.d
 (Value.int IntKind.i64
 (loseM
 (ofM (rowMi n (miF f))
 (takeP
 { room := L.room, first := L.first, next := L.next, last := L.last, es := rowPk k pg : LSt }
 seq).mi)
 (takeP
 { room := L.room, first := L.first, next := L.next, last := L.last, es := rowPk k pg : LSt }
 seq).size).frm),
 SV.d
 (Value.int IntKind.i64
 (loseM
 (ofM (rowMi n (miF f))
 (takeP
 { room := L.room, first := L.first, next := L.next, last := L.last, es := rowPk k pg : LSt }
 seq).mi)
 (takeP
 { room := L.room, first := L.first, next := L.next, last := L.last, es := rowPk k pg : LSt }
 seq).size).to),
 SV.d
 (Value.int IntKind.i64
 (loseM
 (ofM (rowMi n (miF f))
 (takeP
 { room := L.room, first := L.first, next := L.next, last := L.last, es := rowPk k pg : LSt }
 seq).mi)
 (takeP
 { room := L.room, first := L.first, next := L.next, last := L.last, es := rowPk k pg : LSt }
 seq).size).sent),
 SV.d
 (Value.int IntKind.i64
 (loseM
 (ofM (rowMi n (miF f))
 (takeP
 { room := L.room, first := L.first, next := L.next, last := L.last, es := rowPk k pg : LSt }
 seq).mi)
 (takeP
 { room := L.room, first := L.first, next := L.next, last := L.last, es := rowPk k pg : LSt }
 seq).size).acked),
 SV.d
 (Value.int IntKind.i64
 (loseM
 (ofM (rowMi n (miF f))
 (takeP
 { room := L.room, first := L.first, next := L.next, last := L.last, es := rowPk k pg : LSt }
 seq).mi)
 (takeP
 { room := L.room, first := L.first, next := L.next, last := L.last, es := rowPk k pg : LSt }
 seq).size).lost),
 SV.d
 (Value.int IntKind.i64
 (loseM
 (ofM (rowMi n (miF f))
 (takeP
 { room := L.room, first := L.first, next := L.next, last := L.last, es := rowPk k pg : LSt }
 seq).mi)
 (takeP
 { room := L.room, first := L.first, next := L.next, last := L.last, es := rowPk k pg : LSt }
 seq).size).packets),
 SV.d
 (Value.int IntKind.i64
 (loseM
 (ofM (rowMi n (miF f))
 (takeP
 { room := L.room, first := L.first, next := L.next, last := L.last, es := rowPk k pg : LSt }
 seq).mi)
 (takeP
 { room := L.room, first := L.first, next := L.next, last := L.last, es := rowPk k pg : LSt }
 seq).size).hits),
 SV.d
 (Value.int IntKind.i64
 (loseM
 (ofM (rowMi n (miF f))
 (takeP
 { room := L.room, first := L.first, next := L.next, last := L.last, es := rowPk k pg : LSt }
 seq).mi)
 (takeP
 { room := L.room, first := L.first, next := L.next, last := L.last, es := rowPk k pg : LSt }
 seq).size).drops),
 SV.d
 (Value.int IntKind.i64
 (loseM
 (ofM (rowMi n (miF f))
 (takeP
 { room := L.room, first := L.first, next := L.next, last := L.last, es := rowPk k pg : LSt }
 seq).mi)
 (takeP
 { room := L.room, first := L.first, next := L.next, last := L.last, es := rowPk k pg : LSt }
 seq).size).n),
 SV.d
 (Value.int IntKind.i64
 (loseM
 (ofM (rowMi n (miF f))
 (takeP
 { room := L.room, first := L.first, next := L.next, last := L.last, es := rowPk k pg : LSt }
 seq).mi)
 (takeP
 { room := L.room, first := L.first, next := L.next, last := L.last, es := rowPk k pg : LSt }
 seq).size).sumT),
 SV.d
 (Value.int IntKind.i64
 (loseM
 (ofM (rowMi n (miF f))
 (takeP
 { room := L.room, first := L.first, next := L.next, last := L.last, es := rowPk k pg : LSt }
 seq).mi)
 (takeP
 { room := L.room, first := L.first, next := L.next, last := L.last, es := rowPk k pg : LSt }
 seq).size).sumR),
 SV.d
 (Value.int IntKind.i64
 (loseM
 (ofM (rowMi n (miF f))
 (takeP
 { room := L.room, first := L.first, next := L.next, last := L.last, es := rowPk k pg : LSt }
 seq).mi)
 (takeP
 { room := L.room, first := L.first, next := L.next, last := L.last, es := rowPk k pg : LSt }
 seq).size).sumTT),
 SV.d
 (Value.int IntKind.i64
 (loseM
 (ofM (rowMi n (miF f))
 (takeP
 { room := L.room, first := L.first, next := L.next, last := L.last, es := rowPk k pg : LSt }
 seq).mi)
 (takeP
 { room := L.room, first := L.first, next := L.next, last := L.last, es := rowPk k pg : LSt }
 seq).size).sumTR),
 SV.d
 (Value.int IntKind.i64
 (loseM
 (ofM (rowMi n (miF f))
 (takeP
 { room := L.room, first := L.first, next := L.next, last := L.last, es := rowPk k pg : LSt }
 seq).mi)
 (takeP
 { room := L.room, first := L.first, next := L.next, last := L.last, es := rowPk k pg : LSt }
 seq).size).sumRR)],
 AB.row 36 4
 (rowPk
 (rowPk
 (takeL
 { room := L.room, first := L.first, next := L.next, last := L.last, es := rowPk k pg : LSt }
 seq).es.length
 (pkG
 (takeL
 { room := L.room, first := L.first, next := L.next, last := L.last, es := rowPk k pg : LSt }
 seq).es)).length
 (pkG
 (rowPk
 (takeL
 { room := L.room, first := L.first, next := L.next, last := L.last, es := rowPk k pg : LSt }
 seq).es.length
 (pkG
 (takeL
 { room := L.room, first := L.first, next := L.next, last := L.last, es := rowPk k pg : LSt }
 seq).es)))).length
 (pkG
 (rowPk
 (rowPk
 (takeL
 { room := L.room, first := L.first, next := L.next, last := L.last, es := rowPk k pg : LSt }
 seq).es.length
 (pkG
 (takeL
 { room := L.room, first := L.first, next := L.next, last := L.last, es := rowPk k pg : LSt }
 seq).es)).length
 (pkG
 (rowPk
 (takeL
 { room := L.room, first := L.first, next := L.next, last := L.last, es := rowPk k pg : LSt }
 seq).es.length
 (pkG
 (takeL
 { room := L.room, first := L.first, next := L.next, last := L.last, es := rowPk k pg : LSt }
 seq).es))))),
 AB.row 80 15
 (putM (rowMi (rowMi n (miF f)).length (miG (rowMi n (miF f))))
 (loseM
 (ofM (rowMi n (miF f))
 (takeP
 { room := L.room, first := L.first, next := L.next, last := L.last, es := rowPk k pg : LSt }
 seq).mi)
 (takeP
 { room := L.room, first := L.first, next := L.next, last := L.last, es := rowPk k pg : LSt }
 seq).size)).length
 (miG
 (putM (rowMi (rowMi n (miF f)).length (miG (rowMi n (miF f))))
 (loseM
 (ofM (rowMi n (miF f))
 (takeP
 { room := L.room, first := L.first, next := L.next, last := L.last, es := rowPk k pg : LSt }
 seq).mi)
 (takeP
 { room := L.room, first := L.first, next := L.next, last := L.last, es := rowPk k pg : LSt }
 seq).size)))])))).both
 (T.need
 (some
 (AB.cells 36
 [SV.d
 (Value.int IntKind.u64
 (takeP
 { room := L.room, first := L.first, next := L.next, last := L.last, es := rowPk k pg : LSt }
 seq).seq),
 SV.d
 (Value.int IntKind.i64
 (takeP
 { room := L.room, first := L.first, next := L.next, last := L.last, es := rowPk k pg : LSt }
 seq).mi),
 SV.d
 (Value.int IntKind.i64
 (takeP
 { room := L.room, first := L.first, next := L.next, last := L.last, es := rowPk k pg : LSt }
 seq).size),
 SV.d
 (Value.int IntKind.i64
 (takeP
 { room := L.room, first := L.first, next := L.next, last := L.last, es := rowPk k pg : LSt }
 seq).sent)]) =
 some
 (AB.cells 36
 [SV.d
 (Value.int IntKind.u64
 (takeP
 { room := L.room, first := L.first, next := L.next, last := L.last, es := rowPk k pg : LSt }
 seq).seq),
 SV.d
 (Value.int IntKind.i64
 (takeP
 { room := L.room, first := L.first, next := L.next, last := L.last, es := rowPk k pg : LSt }
 seq).mi),
 SV.d
 (Value.int IntKind.i64
 (takeP
 { room := L.room, first := L.first, next := L.next, last := L.last, es := rowPk k pg : LSt }
 seq).size),
 SV.d
 (Value.int IntKind.i64
 (takeP
 { room := L.room, first := L.first, next := L.next, last := L.last, es := rowPk k pg : LSt }
 seq).sent)]))
 (T.need
 ((loseE
 (ofM (rowMi n (miF f))
 (takeP
 { room := L.room, first := L.first, next := L.next, last := L.last, es := rowPk k pg : LSt }
 seq).mi)
 (takeP
 { room := L.room, first := L.first, next := L.next, last := L.last, es := rowPk k pg : LSt }
 seq).size ==
 0) =
 true)
 (T.need
 ((((rowMi n (miF f)).length = (rowMi n (miF f)).length ∧
 MiRow (rowMi n (miF f)).length (miG (rowMi n (miF f)))) ∧
 (rowPk
 (takeL
 { room := L.room, first := L.first, next := L.next, last := L.last, es := rowPk k pg : LSt }
 seq).es.length
 (pkG
 (takeL
 { room := L.room, first := L.first, next := L.next, last := L.last, es := rowPk k pg : LSt }
 seq).es)).length =
 (rowPk
 (takeL
 { room := L.room, first := L.first, next := L.next, last := L.last, es := rowPk k pg : LSt }
 seq).es.length
 (pkG
 (takeL
 { room := L.room, first := L.first, next := L.next, last := L.last, es := rowPk k pg : LSt }
 seq).es)).length ∧
 PkRow
 (rowPk
 (takeL
 { room := L.room, first := L.first, next := L.next, last := L.last, es := rowPk k pg : LSt }
 seq).es.length
 (pkG
 (takeL
 { room := L.room, first := L.first, next := L.next, last := L.last, es := rowPk k pg : LSt }
 seq).es)).length
 (pkG
 (rowPk
 (takeL
 { room := L.room, first := L.first, next := L.next, last := L.last, es := rowPk k pg : LSt }
 seq).es.length
 (pkG
 (takeL
 { room := L.room, first := L.first, next := L.next, last := L.last, es := rowPk k pg : LSt }
 seq).es)))) ∧
 (rowMi (rowMi n (miF f)).length (miG (rowMi n (miF f)))).length ≤ 64)
 (T.ret
 (AV.tup
 [EV.agg
 [SV.d
 (Value.int IntKind.u64
 (takeP
 { room := L.room, first := L.first, next := L.next, last := L.last, es := rowPk k pg : LSt }
 seq).seq),
 SV.d
 (Value.int IntKind.i64
 (takeP
 { room := L.room, first := L.first, next := L.next, last := L.last, es := rowPk k pg : LSt }
 seq).mi),
 SV.d
 (Value.int IntKind.i64
 (takeP
 { room := L.room, first := L.first, next := L.next, last := L.last, es := rowPk k pg : LSt }
 seq).size),
 SV.d
 (Value.int IntKind.i64
 (takeP
 { room := L.room, first := L.first, next := L.next, last := L.last, es := rowPk k pg : LSt }
 seq).sent)],
 EV.s (SV.c (Value.int IntKind.i64 0))],
 [AB.cells 72
 [SV.ptr 1 0,
 SV.sl 11 15 0
 (putM (rowMi (rowMi n (miF f)).length (miG (rowMi n (miF f))))
 (loseM
 (ofM (rowMi n (miF f))
 (takeP
 { room := L.room, first := L.first, next := L.next, last := L.last, es := rowPk k pg : LSt }
 seq).mi)
 (takeP
 { room := L.room, first := L.first, next := L.next, last := L.last, es := rowPk k pg : LSt }
 seq).size)).length
 0,
 SV.d (Value.int IntKind.i64 id), SV.d (Value.int IntKind.i64 tmo),
 SV.d (Value.int IntKind.i64 at')],
 AB.cells 44
 [SV.d
 (Value.int IntKind.i64
 (takeL
 { room := L.room, first := L.first, next := L.next, last := L.last, es := rowPk k pg : LSt }
 seq).1),
 SV.d
 (Value.int IntKind.u64
 (takeL
 { room := L.room, first := L.first, next := L.next, last := L.last, es := rowPk k pg : LSt }
 seq).2),
 SV.d
 (Value.int IntKind.u64
 (takeL
 { room := L.room, first := L.first, next := L.next, last := L.last, es := rowPk k pg : LSt }
 seq).3),
 SV.d
 (Value.int IntKind.i64
 (takeL
 { room := L.room, first := L.first, next := L.next, last := L.last, es := rowPk k pg : LSt }
 seq).4),
 SV.sl 10 4 0
 (rowPk
 (rowPk
 (takeL
 { room := L.room, first := L.first, next := L.next, last := L.last, es := rowPk k pg : LSt }
 seq).es.length
 (pkG
 (takeL
 { room := L.room, first := L.first, next := L.next, last := L.last, es := rowPk k pg : LSt }
 seq).es)).length
 (pkG
 (rowPk
 (takeL
 { room := L.room, first := L.first, next := L.next, last := L.last, es := rowPk k pg : LSt }
 seq).es.length
 (pkG
 (takeL
 { room := L.room, first := L.first, next := L.next, last := L.last, es := rowPk k pg : LSt }
 seq).es)))).length
 0],
 AB.dead, AB.dead,
 AB.cells 36
 [SV.d
 (Value.int IntKind.u64
 (takeP
 { room := L.room, first := L.first, next := L.next, last := L.last, es := rowPk k pg : LSt }
 seq).seq),
 SV.d
 (Value.int IntKind.i64
 (takeP
 { room := L.room, first := L.first, next := L.next, last := L.last, es := rowPk k pg : LSt }
 seq).mi),
 SV.d
 (Value.int IntKind.i64
 (takeP
 { room := L.room, first := L.first, next := L.next, last := L.last, es := rowPk k pg : LSt }
 seq).size),
 SV.d
 (Value.int IntKind.i64
 (takeP
 { room := L.room, first := L.first, next := L.next, last := L.last, es := rowPk k pg : LSt }
 seq).sent)],
 AB.dead,
 AB.cells 36
 [SV.d
 (Value.int IntKind.u64
 (takeP
 { room := L.room, first := L.first, next := L.next, last := L.last, es := rowPk k pg : LSt }
 seq).seq),
 SV.d
 (Value.int IntKind.i64
 (takeP
 { room := L.room, first := L.first, next := L.next, last := L.last, es := rowPk k pg : LSt }
 seq).mi),
 SV.d
 (Value.int IntKind.i64
 (takeP
 { room := L.room, first := L.first, next := L.next, last := L.last, es := rowPk k pg : LSt }
 seq).size),
 SV.d
 (Value.int IntKind.i64
 (takeP
 { room := L.room, first := L.first, next := L.next, last := L.last, es := rowPk k pg : LSt }
 seq).sent)],
 AB.dead, AB.dead,
 AB.cells 80
 [SV.d
 (Value.int IntKind.i64
 (loseM
 (ofM (rowMi n (miF f))
 (takeP
 { room := L.room, first := L.first, next := L.next, last := L.last, es := rowPk k pg : LSt }
 seq).mi)
 (takeP
 { room := L.room, first := L.first, next := L.next, last := L.last, es := rowPk k pg : LSt }
 seq).size).id),
 SV.d
 (Value.int IntKind.i64
 (loseM
 (ofM (rowMi n (miF f))
 (takeP
 { room := L.room, first := L.first, next := L.next, last := L.last, es := rowPk k pg : LSt }
 seq).mi)
 (takeP
 { room := L.room, first := L.first, next := L.next, last := L.last, es := rowPk k pg : LSt }
 seq).size).frm),
 SV.d
 (Value.int IntKind.i64
 (loseM
 (ofM (rowMi n (miF f))
 (takeP
 { room := L.room, first := L.first, next := L.next, last := L.last, es := rowPk k pg : LSt }
 seq).mi)
 (takeP
 { room := L.room, first := L.first, next := L.next, last := L.last, es := rowPk k pg : LSt }
 seq).size).to),
 SV.d
 (Value.int IntKind.i64
 (loseM
 (ofM (rowMi n (miF f))
 (takeP
 { room := L.room, first := L.first, next := L.next, last := L.last, es := rowPk k pg : LSt }
 seq).mi)
 (takeP
 { room := L.room, first := L.first, next := L.next, last := L.last, es := rowPk k pg : LSt }
 seq).size).sent),
 SV.d
 (Value.int IntKind.i64
 (loseM
 (ofM (rowMi n (miF f))
 (takeP
 { room := L.room, first := L.first, next := L.next, last := L.last, es := rowPk k pg : LSt }
 seq).mi)
 (takeP
 { room := L.room, first := L.first, next := L.next, last := L.last, es := rowPk k pg : LSt }
 seq).size).acked),
 SV.d
 (Value.int IntKind.i64
 (loseM
 (ofM (rowMi n (miF f))
 (takeP
 { room := L.room, first := L.first, next := L.next, last := L.last, es := rowPk k pg : LSt }
 seq).mi)
 (takeP
 { room := L.room, first := L.first, next := L.next, last := L.last, es := rowPk k pg : LSt }
 seq).size).lost),
 SV.d
 (Value.int IntKind.i64
 (loseM
 (ofM (rowMi n (miF f))
 (takeP
 { room := L.room, first := L.first, next := L.next, last := L.last, es := rowPk k pg : LSt }
 seq).mi)
 (takeP
 { room := L.room, first := L.first, next := L.next, last := L.last, es := rowPk k pg : LSt }
 seq).size).packets),
 SV.d
 (Value.int IntKind.i64
 (loseM
 (ofM (rowMi n (miF f))
 (takeP
 { room := L.room, first := L.first, next := L.next, last := L.last, es := rowPk k pg : LSt }
 seq).mi)
 (takeP
 { room := L.room, first := L.first, next := L.next, last := L.last, es := rowPk k pg : LSt }
 seq).size).hits),
 SV.d
 (Value.int IntKind.i64
 (loseM
 (ofM (rowMi n (miF f))
 (takeP
 { room := L.room, first := L.first, next := L.next, last := L.last, es := rowPk k pg : LSt }
 seq).mi)
 (takeP
 { room := L.room, first := L.first, next := L.next, last := L.last, es := rowPk k pg : LSt }
 seq).size).drops),
 SV.d
 (Value.int IntKind.i64
 (loseM
 (ofM (rowMi n (miF f))
 (takeP
 { room := L.room, first := L.first, next := L.next, last := L.last, es := rowPk k pg : LSt }
 seq).mi)
 (takeP
 { room := L.room, first := L.first, next := L.next, last := L.last, es := rowPk k pg : LSt }
 seq).size).n),
 SV.d
 (Value.int IntKind.i64
 (loseM
 (ofM (rowMi n (miF f))
 (takeP
 { room := L.room, first := L.first, next := L.next, last := L.last, es := rowPk k pg : LSt }
 seq).mi)
 (takeP
 { room := L.room, first := L.first, next := L.next, last := L.last, es := rowPk k pg : LSt }
 seq).size).sumT),
 SV.d
 (Value.int IntKind.i64
 (loseM
 (ofM (rowMi n (miF f))
 (takeP
 { room := L.room, first := L.first, next := L.next, last := L.last, es := rowPk k pg : LSt }
 seq).mi)
 (takeP
 { room := L.room, first := L.first, next := L.next, last := L.last, es := rowPk k pg : LSt }
 seq).size).sumR),
 SV.d
 (Value.int IntKind.i64
 (loseM
 (ofM (rowMi n (miF f))
 (takeP
 { room := L.room, first := L.first, next := L.next, last := L.last, es := rowPk k pg : LSt }
 seq).mi)
 (takeP
 { room := L.room, first := L.first, next := L.next, last := L.last, es := rowPk k pg : LSt }
 seq).size).sumTT),
 SV.d
 (Value.int IntKind.i64
 (loseM
 (ofM (rowMi n (miF f))
 (takeP
 { room := L.room, first := L.first, next := L.next, last := L.last, es := rowPk k pg : LSt }
 seq).mi)
 (takeP
 { room := L.room, first := L.first, next := L.next, last := L.last, es := rowPk k pg : LSt }
 seq).size).sumTR),
 SV.d
 (Value.int IntKind.i64
 (loseM
 (ofM (rowMi n (miF f))
 (takeP
 { room := L.room, first := L.first, next := L.next, last := L.last, es := rowPk k pg : LSt }
 seq).mi)
 (takeP
 { room := L.room, first := L.first, next := L.next, last := L.last, es := rowPk k pg : LSt }
 seq).size).sumRR)],
 AB.row 36 4
 (rowPk
 (rowPk
 (takeL
 { room := L.room, first := L.first, next := L.next, last := L.last, es := rowPk k pg : LSt }
 seq).es.length
 (pkG
 (takeL
 { room := L.room, first := L.first, next := L.next, last := L.last, es := rowPk k pg : LSt }
 seq).es)).length
 (pkG
 (rowPk
 (takeL
 { room := L.room, first := L.first, next := L.next, last := L.last, es := rowPk k pg : LSt }
 seq).es.length
 (pkG
 (takeL
 { room := L.room, first := L.first, next := L.next, last := L.last, es := rowPk k pg : LSt }
 seq).es)))).length
 (pkG
 (rowPk
 (rowPk
 (takeL
 { room := L.room, first := L.first, next := L.next, last := L.last, es := rowPk k pg : LSt }
 seq).es.length
 (pkG
 (takeL
 { room := L.room, first := L.first, next := L.next, last := L.last, es := rowPk k pg : LSt }
 seq).es)).length
 (pkG
 (rowPk
 (takeL
 { room := L.room, first := L.first, next := L.next, last := L.last, es := rowPk k pg : LSt }
 seq).es.length
 (pkG
 (takeL
 { room := L.room, first := L.first, next := L.next, last := L.last, es := rowPk k pg : LSt }
 seq).es))))),
 AB.row 80 15
 (putM (rowMi (rowMi n (miF f)).length (miG (rowMi n (miF f))))
 (loseM
 (ofM (rowMi n (miF f))
 (takeP
 { room := L.room, first := L.first, next := L.next, last := L.last, es := rowPk k pg : LSt }
 seq).mi)
 (takeP
 { room := L.room, first := L.first, next := L.next, last := L.last, es := rowPk k pg : LSt }
 seq).size)).length
 (miG
 (putM (rowMi (rowMi n (miF f)).length (miG (rowMi n (miF f))))
 (loseM
 (ofM (rowMi n (miF f))
 (takeP
 { room := L.room, first := L.first, next := L.next, last := L.last, es := rowPk k pg : LSt }
 seq).mi)
 (takeP
 { room := L.room, first := L.first, next := L.next, last := L.last, es := rowPk k pg : LSt }
 seq).size)))])))))))).both
 (T.need
 (some
 (AB.cells 36
 [SV.d
 (Value.int IntKind.u64
 (takeP
 { room := L.room, first := L.first, next := L.next, last := L.last, es := rowPk k pg : LSt }
 seq).seq),
 SV.d
 (Value.int IntKind.i64
 (takeP
 { room := L.room, first := L.first, next := L.next, last := L.last, es := rowPk k pg : LSt }
 seq).mi),
 SV.d
 (Value.int IntKind.i64
 (takeP
 { room := L.room, first := L.first, next := L.next, last := L.last, es := rowPk k pg : LSt }
 seq).size),
 SV.d
 (Value.int IntKind.i64
 (takeP
 { room := L.room, first := L.first, next := L.next, last := L.last, es := rowPk k pg : LSt }
 seq).sent)]) =
 some
 (AB.cells 36
 [SV.d
 (Value.int IntKind.u64
 (takeP
 { room := L.room, first := L.first, next := L.next, last := L.last, es := rowPk k pg : LSt }
 seq).seq),
 SV.d
 (Value.int IntKind.i64
 (takeP
 { room := L.room, first := L.first, next := L.next, last := L.last, es := rowPk k pg : LSt }
 seq).mi),
 SV.d
 (Value.int IntKind.i64
 (takeP
 { room := L.room, first := L.first, next := L.next, last := L.last, es := rowPk k pg : LSt }
 seq).size),
 SV.d
 (Value.int IntKind.i64
 (takeP
 { room := L.room, first := L.first, next := L.next, last := L.last, es := rowPk k pg : LSt }
 seq).sent)]))
 (T.need
 (some
 (AB.cells 36
 [SV.d
 (Value.int IntKind.u64
 (takeP
 { room := L.room, first := L.first, next := L.next, last := L.last, es := rowPk k pg : LSt }
 seq).seq),
 SV.d
 (Value.int IntKind.i64
 (takeP
 { room := L.room, first := L.first, next := L.next, last := L.last, es := rowPk k pg : LSt }
 seq).mi),
 SV.d
 (Value.int IntKind.i64
 (takeP
 { room := L.room, first := L.first, next := L.next, last := L.last, es := rowPk k pg : LSt }
 seq).size),
 SV.d
 (Value.int IntKind.i64
 (takeP
 { room := L.room, first := L.first, next := L.next, last := L.last, es := rowPk k pg : LSt }
 seq).sent)]) =
 some
 (AB.cells 36
 [SV.d
 (Value.int IntKind.u64
 (takeP
 { room := L.room, first := L.first, next := L.next, last := L.last, es := rowPk k pg : LSt }
 seq).seq),
 SV.d
 (Value.int IntKind.i64
 (takeP
 { room := L.room, first := L.first, next := L.next, last := L.last, es := rowPk k pg : LSt }
 seq).mi),
 SV.d
 (Value.int IntKind.i64
 (takeP
 { room := L.room, first := L.first, next := L.next, last := L.last, es := rowPk k pg : LSt }
 seq).size),
 SV.d
 (Value.int IntKind.i64
 (takeP
 { room := L.room, first := L.first, next := L.next, last := L.last, es := rowPk k pg : LSt }
 seq).sent)]))
 (T.need
 (((n = n ∧ MiRow n (miF f)) ∧
 (takeL
 { room := L.room, first := L.first, next := L.next, last := L.last, es := rowPk k pg : LSt }
 seq).es.length =
 (takeL
 { room := L.room, first := L.first, next := L.next, last := L.last, es := rowPk k pg : LSt }
 seq).es.length ∧
 PkRow
 (takeL
 { room := L.room, first := L.first, next := L.next, last := L.last, es := rowPk k pg : LSt }
 seq).es.length
 (pkG
 (takeL
 { room := L.room, first := L.first, next := L.next, last := L.last, es := rowPk k pg : LSt }
 seq).es)) ∧
 (rowMi n (miF f)).length ≤ 64)
 (T.need
 (some
 (AB.cells 36
 [SV.d
 (Value.int IntKind.u64
 (takeP
 { room := L.room, first := L.first, next := L.next, last := L.last, es := rowPk k pg : LSt }
 seq).seq),
 SV.d
 (Value.int IntKind.i64
 (takeP
 { room := L.room, first := L.first, next := L.next, last := L.last, es := rowPk k pg : LSt }
 seq).mi),
 SV.d
 (Value.int IntKind.i64
 (takeP
 { room := L.room, first := L.first, next := L.next, last := L.last, es := rowPk k pg : LSt }
 seq).size),
 SV.d
 (Value.int IntKind.i64
 (takeP
 { room := L.room, first := L.first, next := L.next, last := L.last, es := rowPk k pg : LSt }
 seq).sent)]) =
 some
 (AB.cells 36
 [SV.d
 (Value.int IntKind.u64
 (takeP
 { room := L.room, first := L.first, next := L.next, last := L.last, es := rowPk k pg : LSt }
 seq).seq),
 SV.d
 (Value.int IntKind.i64
 (takeP
 { room := L.room, first := L.first, next := L.next, last := L.last, es := rowPk k pg : LSt }
 seq).mi),
 SV.d
 (Value.int IntKind.i64
 (takeP
 { room := L.room, first := L.first, next := L.next, last := L.last, es := rowPk k pg : LSt }
 seq).size),
 SV.d
 (Value.int IntKind.i64
 (takeP
 { room := L.room, first := L.first, next := L.next, last := L.last, es := rowPk k pg : LSt }
 seq).sent)]))
 (T.need
 ((loseE
 (ofM (rowMi n (miF f))
 (takeP
 { room := L.room, first := L.first, next := L.next, last := L.last, es := rowPk k pg : LSt }
 seq).mi)
 (takeP
 { room := L.room, first := L.first, next := L.next, last := L.last, es := rowPk k pg : LSt }
 seq).size ==
 0) =
 true)
 (T.need
 ((((rowMi n (miF f)).length = (rowMi n (miF f)).length ∧
 MiRow (rowMi n (miF f)).length (miG (rowMi n (miF f)))) ∧
 (rowPk
 (takeL
 { room := L.room, first := L.first, next := L.next, last := L.last, es := rowPk k pg : LSt }
 seq).es.length
 (pkG
 (takeL
 { room := L.room, first := L.first, next := L.next, last := L.last, es := rowPk k pg : LSt }
 seq).es)).length =
 (rowPk
 (takeL
 { room := L.room, first := L.first, next := L.next, last := L.last, es := rowPk k pg : LSt }
 seq).es.length
 (pkG
 (takeL
 { room := L.room, first := L.first, next := L.next, last := L.last, es := rowPk k pg : LSt }
 seq).es)).length ∧
 PkRow
 (rowPk
 (takeL
 { room := L.room, first := L.first, next := L.next, last := L.last, es := rowPk k pg : LSt }
 seq).es.length
 (pkG
 (takeL
 { room := L.room, first := L.first, next := L.next, last := L.last, es := rowPk k pg : LSt }
 seq).es)).length
 (pkG
 (rowPk
 (takeL
 { room := L.room, first := L.first, next := L.next, last := L.last, es := rowPk k pg : LSt }
 seq).es.length
 (pkG
 (takeL
 { room := L.room, first := L.first, next := L.next, last := L.last, es := rowPk k pg : LSt }
 seq).es)))) ∧
 (rowMi (rowMi n (miF f)).length (miG (rowMi n (miF f)))).length ≤ 64)
 (T.ret
 (AV.tup
 [EV.agg
 [SV.d
 (Value.int IntKind.u64
 (takeP
 { room := L.room, first := L.first, next := L.next, last := L.last, es := rowPk k pg : LSt }
 seq).seq),
 SV.d
 (Value.int IntKind.i64
 (takeP
 { room := L.room, first := L.first, next := L.next, last := L.last, es := rowPk k pg : LSt }
 seq).mi),
 SV.d
 (Value.int IntKind.i64
 (takeP
 { room := L.room, first := L.first, next := L.next, last := L.last, es := rowPk k pg : LSt }
 seq).size),
 SV.d
 (Value.int IntKind.i64
 (takeP
 { room := L.room, first := L.first, next := L.next, last := L.last, es := rowPk k pg : LSt }
 seq).sent)],
 EV.s (SV.c (Value.int IntKind.i64 0))],
 [AB.cells 72
 [SV.ptr 1 0,
 SV.sl 11 15 0
 (putM (rowMi (rowMi n (miF f)).length (miG (rowMi n (miF f))))
 (loseM
 (ofM (rowMi n (miF f))
 (takeP
 { room := L.room, first := L.first, next := L.next, last := L.last, es := rowPk k pg : LSt }
 seq).mi)
 (takeP
 { room := L.room, first := L.first, next := L.next, last := L.last, es := rowPk k pg : LSt }
 seq).size)).length
 0,
 SV.d (Value.int IntKind.i64 id), SV.d (Value.int IntKind.i64 tmo),
 SV.d (Value.int IntKind.i64 at')],
 AB.cells 44
 [SV.d
 (Value.int IntKind.i64
 (takeL
 { room := L.room, first := L.first, next := L.next, last := L.last, es := rowPk k pg : LSt }
 seq).1),
 SV.d
 (Value.int IntKind.u64
 (takeL
 { room := L.room, first := L.first, next := L.next, last := L.last, es := rowPk k pg : LSt }
 seq).2),
 SV.d
 (Value.int IntKind.u64
 (takeL
 { room := L.room, first := L.first, next := L.next, last := L.last, es := rowPk k pg : LSt }
 seq).3),
 SV.d
 (Value.int IntKind.i64
 (takeL
 { room := L.room, first := L.first, next := L.next, last := L.last, es := rowPk k pg : LSt }
 seq).4),
 SV.sl 10 4 0
 (rowPk
 (rowPk
 (takeL
 { room := L.room, first := L.first, next := L.next, last := L.last, es := rowPk k pg : LSt }
 seq).es.length
 (pkG
 (takeL
 { room := L.room, first := L.first, next := L.next, last := L.last, es := rowPk k pg : LSt }
 seq).es)).length
 (pkG
 (rowPk
 (takeL
 { room := L.room, first := L.first, next := L.next, last := L.last, es := rowPk k pg : LSt }
 seq).es.length
 (pkG
 (takeL
 { room := L.room, first := L.first, next := L.next, last := L.last, es := rowPk k pg : LSt }
 seq).es)))).length
 0],
 AB.dead, AB.dead,
 AB.cells 36
 [SV.d
 (Value.int IntKind.u64
 (takeP
 { room := L.room, first := L.first, next := L.next, last := L.last, es := rowPk k pg : LSt }
 seq).seq),
 SV.d
 (Value.int IntKind.i64
 (takeP
 { room := L.room, first := L.first, next := L.next, last := L.last, es := rowPk k pg : LSt }
 seq).mi),
 SV.d
 (Value.int IntKind.i64
 (takeP
 { room := L.room, first := L.first, next := L.next, last := L.last, es := rowPk k pg : LSt }
 seq).size),
 SV.d
 (Value.int IntKind.i64
 (takeP
 { room := L.room, first := L.first, next := L.next, last := L.last, es := rowPk k pg : LSt }
 seq).sent)],
 AB.dead,
 AB.cells 36
 [SV.d
 (Value.int IntKind.u64
 (takeP
 { room := L.room, first := L.first, next := L.next, last := L.last, es := rowPk k pg : LSt }
 seq).seq),
 SV.d
 (Value.int IntKind.i64
 (takeP
 { room := L.room, first := L.first, next := L.next, last := L.last, es := rowPk k pg : LSt }
 seq).mi),
 SV.d
 (Value.int IntKind.i64
 (takeP
 { room := L.room, first := L.first, next := L.next, last := L.last, es := rowPk k pg : LSt }
 seq).size),
 SV.d
 (Value.int IntKind.i64
 (takeP
 { room := L.room, first := L.first, next := L.next, last := L.last, es := rowPk k pg : LSt }
 seq).sent)],
 AB.cells 80
 [SV.d
 (Value.int IntKind.i64
 (loseM
 (ofM (rowMi n (miF f))
 (takeP
 { room := L.room, first := L.first, next := L.next, last := L.last, es := rowPk k pg : LSt }
 seq).mi)
 (takeP
 { room := L.room, first := L.first, next := L.next, last := L.last, es := rowPk k pg : LSt }
 seq).size).id),
 SV.d
 (Value.int IntKind.i64
 (loseM
 (ofM (rowMi n (miF f))
 (takeP
 { room := L.room, first := L.first, next := L.next, last := L.last, es := rowPk k pg : LSt }
 seq).mi)
 (takeP
 { room := L.room, first := L.first, next := L.next, last := L.last, es := rowPk k pg : LSt }
 seq).size).frm),
 SV.d
 (Value.int IntKind.i64
 (loseM
 (ofM (rowMi n (miF f))
 (takeP
 { room := L.room, first := L.first, next := L.next, last := L.last, es := rowPk k pg : LSt }
 seq).mi)
 (takeP
 { room := L.room, first := L.first, next := L.next, last := L.last, es := rowPk k pg : LSt }
 seq).size).to),
 SV.d
 (Value.int IntKind.i64
 (loseM
 (ofM (rowMi n (miF f))
 (takeP
 { room := L.room, first := L.first, next := L.next, last := L.last, es := rowPk k pg : LSt }
 seq).mi)
 (takeP
 { room := L.room, first := L.first, next := L.next, last := L.last, es := rowPk k pg : LSt }
 seq).size).sent),
 SV.d
 (Value.int IntKind.i64
 (loseM
 (ofM (rowMi n (miF f))
 (takeP
 { room := L.room, first := L.first, next := L.next, last := L.last, es := rowPk k pg : LSt }
 seq).mi)
 (takeP
 { room := L.room, first := L.first, next := L.next, last := L.last, es := rowPk k pg : LSt }
 seq).size).acked),
 SV.d
 (Value.int IntKind.i64
 (loseM
 (ofM (rowMi n (miF f))
 (takeP
 { room := L.room, first := L.first, next := L.next, last := L.last, es := rowPk k pg : LSt }
 seq).mi)
 (takeP
 { room := L.room, first := L.first, next := L.next, last := L.last, es := rowPk k pg : LSt }
 seq).size).lost),
 SV.d
 (Value.int IntKind.i64
 (loseM
 (ofM (rowMi n (miF f))
 (takeP
 { room := L.room, first := L.first, next := L.next, last := L.last, es := rowPk k pg : LSt }
 seq).mi)
 (takeP
 { room := L.room, first := L.first, next := L.next, last := L.last, es := rowPk k pg : LSt }
 seq).size).packets),
 SV.d
 (Value.int IntKind.i64
 (loseM
 (ofM (rowMi n (miF f))
 (takeP
 { room := L.room, first := L.first, next := L.next, last := L.last, es := rowPk k pg : LSt }
 seq).mi)
 (takeP
 { room := L.room, first := L.first, next := L.next, last := L.last, es := rowPk k pg : LSt }
 seq).size).hits),
 SV.d
 (Value.int IntKind.i64
 (loseM
 (ofM (rowMi n (miF f))
 (takeP
 { room := L.room, first := L.first, next := L.next, last := L.last, es := rowPk k pg : LSt }
 seq).mi)
 (takeP
 { room := L.room, first := L.first, next := L.next, last := L.last, es := rowPk k pg : LSt }
 seq).size).drops),
 SV.d
 (Value.int IntKind.i64
 (loseM
 (ofM (rowMi n (miF f))
 (takeP
 { room := L.room, first := L.first, next := L.next, last := L.last, es := rowPk k pg : LSt }
 seq).mi)
 (takeP
 { room := L.room, first := L.first, next := L.next, last := L.last, es := rowPk k pg : LSt }
 seq).size).n),
 SV.d
 (Value.int IntKind.i64
 (loseM
 (ofM (rowMi n (miF f))
 (takeP
 { room := L.room, first := L.first, next := L.next, last := L.last, es := rowPk k pg : LSt }
 seq).mi)
 (takeP
 { room := L.room, first := L.first, next := L.next, last := L.last, es := rowPk k pg : LSt }
 seq).size).sumT),
 SV.d
 (Value.int IntKind.i64
 (loseM
 (ofM (rowMi n (miF f))
 (takeP
 { room := L.room, first := L.first, next := L.next, last := L.last, es := rowPk k pg : LSt }
 seq).mi)
 (takeP
 { room := L.room, first := L.first, next := L.next, last := L.last, es := rowPk k pg : LSt }
 seq).size).sumR),
 SV.d
 (Value.int IntKind.i64
 (loseM
 (ofM (rowMi n (miF f))
 (takeP
 { room := L.room, first := L.first, next := L.next, last := L.last, es := rowPk k pg : LSt }
 seq).mi)
 (takeP
 { room := L.room, first := L.first, next := L.next, last := L.last, es := rowPk k pg : LSt }
 seq).size).sumTT),
 SV.d
 (Value.int IntKind.i64
 (loseM
 (ofM (rowMi n (miF f))
 (takeP
 { room := L.room, first := L.first, next := L.next, last := L.last, es := rowPk k pg : LSt }
 seq).mi)
 (takeP
 { room := L.room, first := L.first, next := L.next, last := L.last, es := rowPk k pg : LSt }
 seq).size).sumTR),
 SV.d
 (Value.int IntKind.i64
 (loseM
 (ofM (rowMi n (miF f))
 (takeP
 { room := L.room, first := L.first, next := L.next, last := L.last, es := rowPk k pg : LSt }
 seq).mi)
 (takeP
 { room := L.room, first := L.first, next := L.next, last := L.last, es := rowPk k pg : LSt }
 seq).size).sumRR)],
 AB.dead, AB.dead,
 AB.row 36 4
 (rowPk
 (rowPk
 (takeL
 { room := L.room, first := L.first, next := L.next, last := L.last, es := rowPk k pg : LSt }
 seq).es.length
 (pkG
 (takeL
 { room := L.room, first := L.first, next := L.next, last := L.last, es := rowPk k pg : LSt }
 seq).es)).length
 (pkG
 (rowPk
 (takeL
 { room := L.room, first := L.first, next := L.next, last := L.last, es := rowPk k pg : LSt }
 seq).es.length
 (pkG
 (takeL
 { room := L.room, first := L.first, next := L.next, last := L.last, es := rowPk k pg : LSt }
 seq).es)))).length
 (pkG
 (rowPk
 (rowPk
 (takeL
 { room := L.room, first := L.first, next := L.next, last := L.last, es := rowPk k pg : LSt }
 seq).es.length
 (pkG
 (takeL
 { room := L.room, first := L.first, next := L.next, last := L.last, es := rowPk k pg : LSt }
 seq).es)).length
 (pkG
 (rowPk
 (takeL
 { room := L.room, first := L.first, next := L.next, last := L.last, es := rowPk k pg : LSt }
 seq).es.length
 (pkG
 (takeL
 { room := L.room, first := L.first, next := L.next, last := L.last, es := rowPk k pg : LSt }
 seq).es))))),
 AB.row 80 15
 (putM (rowMi (rowMi n (miF f)).length (miG (rowMi n (miF f))))
 (loseM
 (ofM (rowMi n (miF f))
 (takeP
 { room := L.room, first := L.first, next := L.next, last := L.last, es := rowPk k pg : LSt }
 seq).mi)
 (takeP
 { room := L.room, first := L.first, next := L.next, last := L.last, es := rowPk k pg : LSt }
 seq).size)).length
 (miG
 (putM (rowMi (rowMi n (miF f)).length (miG (rowMi n (miF f))))
 (loseM
 (ofM (rowMi n (miF f))
 (takeP
 { room := L.room, first := L.first, next := L.next, last := L.last, es := rowPk k pg : LSt }
 seq).mi)
 (takeP
 { room := L.room, first := L.first, next := L.next, last := L.last, es := rowPk k pg : LSt }
 seq).size)))]))))))))))))
 (T.ret
 (AV.tup
 [EV.agg
 [SV.c (Value.int IntKind.u64 0), SV.c (Value.int IntKind.i64 0), SV.c (Value.int IntKind.i64 0),
 SV.c (Value.int IntKind.i64 0)],
 EV.s (SV.c (Value.int IntKind.i64 10))],
 [AB.cells 72
 [SV.ptr 1 0, SV.sl 3 15 0 n 0, SV.d (Value.int IntKind.i64 id), SV.d (Value.int IntKind.i64 tmo),
 SV.d (Value.int IntKind.i64 now)],
 AB.cells 44
 [SV.d (Value.int IntKind.i64 L.room), SV.d (Value.int IntKind.u64 L.first),
 SV.d (Value.int IntKind.u64 L.next), SV.d (Value.int IntKind.i64 L.last), SV.sl 2 4 0 k 0],
 AB.row 36 4 k pg, AB.row 80 15 n (miF f)])))
 (T.ret
 (AV.tup
 [EV.agg
 [SV.c (Value.int IntKind.u64 0), SV.c (Value.int IntKind.i64 0), SV.c (Value.int IntKind.i64 0),
 SV.c (Value.int IntKind.i64 0)],
 EV.s (SV.c (Value.int IntKind.i64 10))],
 [AB.cells 72
 [SV.ptr 1 0, SV.sl 3 15 0 n 0, SV.d (Value.int IntKind.i64 id), SV.d (Value.int IntKind.i64 tmo),
 SV.d (Value.int IntKind.i64 now)],
 AB.cells 44
 [SV.d (Value.int IntKind.i64 L.room), SV.d (Value.int IntKind.u64 L.first),
 SV.d (Value.int IntKind.u64 L.next), SV.d (Value.int IntKind.i64 L.last), SV.sl 2 4 0 k 0],
 AB.row 36 4 k pg, AB.row 80 15 n (miF f)])) := by kernel_rfl


end Go.Proofs.Ythckkoledhjmeaa.Ev
