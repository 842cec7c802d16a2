/-
  The abstract evaluator's trees: books, the program's and the document's, answer a step.
-/
import Derived.Test.YthckkoledhjmeaaCA
namespace Go.Proofs.Ythckkoledhjmeaa.Ev
open Go

/-- Both books in memory. -/
def twoH (L : LSt) (n : Nat) (g : Nat → List Value) (now id tmo : Int) (k : Nat) (pg : Nat → List Value) : Heap :=
  [.cells 95 [.ptr 1 0, .d (.int .i64 now), .sl 3 15 0 n 0, .d (.int .i64 id), .d (.int .i64 tmo)], .cells 86 (lc L 2), .pm L.es, .row 80 15 n g,
   .cells 72 [.ptr 5 0, .sl 7 15 0 n 0, .d (.int .i64 id), .d (.int .i64 tmo), .d (.int .i64 now)], .cells 44 (rc L 6 k), .row 36 4 k pg, .row 80 15 n g]

def e30 : List (Nat × Ent) := [(30, .body oN 0), (32, .summ s32), (33, .summ s33), (34, .summ s34), (35, .summ s35), (36, .summ s36), (37, .summ s37), (50, .summ s50), (51, .summ s51), (52, .summ s52), (53, .summ s53), (54, .summ s54), (55, .summ s55), (16, .summ s16)]

noncomputable def t30 (L : LSt) (n : Nat) (f : Nat → Mi) (now id tmo : Int) (k : Nat) (pg : Nat → List Value) (a b c d : Int) : T (AV × Heap) := callT Try.prog (entL e30) 2 30 [.e (.s (.ptr 0 0)), .e (.s (.ptr 4 0)), .e (.agg [.d (.int .i64 a), .d (.int .i64 b), .d (.int .i64 c), .d (.int .u64 d)])] (twoH L n (miF f) now id tmo k pg) fun r H' => .ret (r, H')

theorem t30_eq (L : LSt) (n : Nat) (f : Nat → Mi) (now id tmo : Int) (k : Nat) (pg : Nat → List Value) (a b c d : Int) : t30 L n f now id tmo k pg a b c d =
 T.ite (a == 0)
 (T.need
 ((n = n ∧ MiRow n (miF f)) ∧
 { L := L, now := now, ms := rowMi n (miF f), id := id, tmo := tmo : BSt }.Ok ∧
 fewIds { L := L, now := now, ms := rowMi n (miF f), id := id, tmo := tmo : BSt })
 (T.need
 (((n = n ∧ MiRow n (miF f)) ∧ k = k ∧ PkRow k pg) ∧
 { L := { room := L.room, first := L.first, next := L.next, last := L.last, es := rowPk k pg : LSt }, now := now, ms := rowMi n (miF f), id := id, tmo := tmo : BSt }.Ok ∧
 fewIds
 { L := { room := L.room, first := L.first, next := L.next, last := L.last, es := rowPk k pg : LSt }, now := now, ms := rowMi n (miF f), id := id, tmo := tmo : BSt })
 (T.ite
 (begN { L := L, now := now, ms := rowMi n (miF f), id := id, tmo := tmo : BSt } c ==
 begN
 { L := { room := L.room, first := L.first, next := L.next, last := L.last, es := rowPk k pg : LSt }, now := now, ms := rowMi n (miF f), id := id, tmo := tmo : BSt }
 c)
 (T.ite
 (begE { L := L, now := now, ms := rowMi n (miF f), id := id, tmo := tmo : BSt } c ==
 begE
 { L := { room := L.room, first := L.first, next := L.next, last := L.last, es := rowPk k pg : LSt }, now := now, ms := rowMi n (miF f), id := id, tmo := tmo : BSt }
 c)
 (T.ret
 (AV.e (EV.s (SV.c (Value.bool true))),
 [AB.cells 95
 [SV.ptr 1 0,
 SV.d
 (Value.int IntKind.i64
 (begB { L := L, now := now, ms := rowMi n (miF f), id := id, tmo := tmo : BSt } c).now),
 SV.sl 9 15 0
 (begB { L := L, now := now, ms := rowMi n (miF f), id := id, tmo := tmo : BSt } c).ms.length 0,
 SV.d
 (Value.int IntKind.i64
 (begB { L := L, now := now, ms := rowMi n (miF f), id := id, tmo := tmo : BSt } c).id),
 SV.d
 (Value.int IntKind.i64
 (begB { L := L, now := now, ms := rowMi n (miF f), id := id, tmo := tmo : BSt } c).tmo)],
 AB.cells 86
 [SV.d
 (Value.int IntKind.i64
 (begB { L := L, now := now, ms := rowMi n (miF f), id := id, tmo := tmo : BSt } c).L.room),
 SV.d
 (Value.int IntKind.u64
 (begB { L := L, now := now, ms := rowMi n (miF f), id := id, tmo := tmo : BSt } c).L.first),
 SV.d
 (Value.int IntKind.u64
 (begB { L := L, now := now, ms := rowMi n (miF f), id := id, tmo := tmo : BSt } c).L.next),
 SV.d
 (Value.int IntKind.i64
 (begB { L := L, now := now, ms := rowMi n (miF f), id := id, tmo := tmo : BSt } c).L.last),
 SV.mp 2],
 AB.pm (begB { L := L, now := now, ms := rowMi n (miF f), id := id, tmo := tmo : BSt } c).L.es, AB.dead,
 AB.cells 72
 [SV.ptr 5 0,
 SV.sl 11 15 0
 (begB
 { L := { room := L.room, first := L.first, next := L.next, last := L.last, es := rowPk k pg : LSt }, now := now, ms := rowMi n (miF f), id := id, tmo := tmo : BSt }
 c).ms.length
 0,
 SV.d
 (Value.int IntKind.i64
 (begB
 { L := { room := L.room, first := L.first, next := L.next, last := L.last, es := rowPk k pg : LSt }, now := now, ms := rowMi n (miF f), id := id, tmo := tmo : BSt }
 c).id),
 SV.d
 (Value.int IntKind.i64
 (begB
 { L := { room := L.room, first := L.first, next := L.next, last := L.last, es := rowPk k pg : LSt }, now := now, ms := rowMi n (miF f), id := id, tmo := tmo : BSt }
 c).tmo),
 SV.d
 (Value.int IntKind.i64
 (begB
 { L := { room := L.room, first := L.first, next := L.next, last := L.last, es := rowPk k pg : LSt }, now := now, ms := rowMi n (miF f), id := id, tmo := tmo : BSt }
 c).now)],
 AB.cells 44
 [SV.d
 (Value.int IntKind.i64
 (begB
 { L := { room := L.room, first := L.first, next := L.next, last := L.last, es := rowPk k pg : LSt }, now := now, ms := rowMi n (miF f), id := id, tmo := tmo : BSt }
 c).L.room),
 SV.d
 (Value.int IntKind.u64
 (begB
 { L := { room := L.room, first := L.first, next := L.next, last := L.last, es := rowPk k pg : LSt }, now := now, ms := rowMi n (miF f), id := id, tmo := tmo : BSt }
 c).L.first),
 SV.d
 (Value.int IntKind.u64
 (begB
 { L := { room := L.room, first := L.first, next := L.next, last := L.last, es := rowPk k pg : LSt }, now := now, ms := rowMi n (miF f), id := id, tmo := tmo : BSt }
 c).L.next),
 SV.d
 (Value.int IntKind.i64
 (begB
 { L := { room := L.room, first := L.first, next := L.next, last := L.last, es := rowPk k pg : LSt }, now := now, ms := rowMi n (miF f), id := id, tmo := tmo : BSt }
 c).L.last),
 SV.sl 10 4 0
 (begB
 { L := { room := L.room, first := L.first, next := L.next, last := L.last, es := rowPk k pg : LSt }, now := now, ms := rowMi n (miF f), id := id, tmo := tmo : BSt }
 c).L.es.length
 0],
 AB.dead, AB.dead,
 AB.cells 63
 [SV.d (Value.int IntKind.i64 a), SV.d (Value.int IntKind.i64 b), SV.d (Value.int IntKind.i64 c),
 SV.d (Value.int IntKind.u64 d)],
 AB.row 80 15
 (begB { L := L, now := now, ms := rowMi n (miF f), id := id, tmo := tmo : BSt } c).ms.length
 (miG (begB { L := L, now := now, ms := rowMi n (miF f), id := id, tmo := tmo : BSt } c).ms),
 AB.row 36 4
 (begB
 { L := { room := L.room, first := L.first, next := L.next, last := L.last, es := rowPk k pg : LSt }, now := now, ms := rowMi n (miF f), id := id, tmo := tmo : BSt }
 c).L.es.length
 (pkG
 (begB
 { L := { room := L.room, first := L.first, next := L.next, last := L.last, es := rowPk k pg : LSt }, now := now, ms := rowMi n (miF f), id := id, tmo := tmo : BSt }
 c).L.es),
 AB.row 80 15
 (begB
 { L := { room := L.room, first := L.first, next := L.next, last := L.last, es := rowPk k pg : LSt }, now := now, ms := rowMi n (miF f), id := id, tmo := tmo : BSt }
 c).ms.length
 (miG
 (begB
 { L := { room := L.room, first := L.first, next := L.next, last := L.last, es := rowPk k pg : LSt }, now := now, ms := rowMi n (miF f), id := id, tmo := tmo : BSt }
 c).ms)]))
 (T.ret
 (AV.e (EV.s (SV.c (Value.bool false))),
 [AB.cells 95
 [SV.ptr 1 0,
 SV.d
 (Value.int IntKind.i64
 (begB { L := L, now := now, ms := rowMi n (miF f), id := id, tmo := tmo : BSt } c).now),
 SV.sl 9 15 0
 (begB { L := L, now := now, ms := rowMi n (miF f), id := id, tmo := tmo : BSt } c).ms.length 0,
 SV.d
 (Value.int IntKind.i64
 (begB { L := L, now := now, ms := rowMi n (miF f), id := id, tmo := tmo : BSt } c).id),
 SV.d
 (Value.int IntKind.i64
 (begB { L := L, now := now, ms := rowMi n (miF f), id := id, tmo := tmo : BSt } c).tmo)],
 AB.cells 86
 [SV.d
 (Value.int IntKind.i64
 (begB { L := L, now := now, ms := rowMi n (miF f), id := id, tmo := tmo : BSt } c).L.room),
 SV.d
 (Value.int IntKind.u64
 (begB { L := L, now := now, ms := rowMi n (miF f), id := id, tmo := tmo : BSt } c).L.first),
 SV.d
 (Value.int IntKind.u64
 (begB { L := L, now := now, ms := rowMi n (miF f), id := id, tmo := tmo : BSt } c).L.next),
 SV.d
 (Value.int IntKind.i64
 (begB { L := L, now := now, ms := rowMi n (miF f), id := id, tmo := tmo : BSt } c).L.last),
 SV.mp 2],
 AB.pm (begB { L := L, now := now, ms := rowMi n (miF f), id := id, tmo := tmo : BSt } c).L.es, AB.dead,
 AB.cells 72
 [SV.ptr 5 0,
 SV.sl 11 15 0
 (begB
 { L := { room := L.room, first := L.first, next := L.next, last := L.last, es := rowPk k pg : LSt }, now := now, ms := rowMi n (miF f), id := id, tmo := tmo : BSt }
 c).ms.length
 0,
 SV.d
 (Value.int IntKind.i64
 (begB
 { L := { room := L.room, first := L.first, next := L.next, last := L.last, es := rowPk k pg : LSt }, now := now, ms := rowMi n (miF f), id := id, tmo := tmo : BSt }
 c).id),
 SV.d
 (Value.int IntKind.i64
 (begB
 { L := { room := L.room, first := L.first, next := L.next, last := L.last, es := rowPk k pg : LSt }, now := now, ms := rowMi n (miF f), id := id, tmo := tmo : BSt }
 c).tmo),
 SV.d
 (Value.int IntKind.i64
 (begB
 { L := { room := L.room, first := L.first, next := L.next, last := L.last, es := rowPk k pg : LSt }, now := now, ms := rowMi n (miF f), id := id, tmo := tmo : BSt }
 c).now)],
 AB.cells 44
 [SV.d
 (Value.int IntKind.i64
 (begB
 { L := { room := L.room, first := L.first, next := L.next, last := L.last, es := rowPk k pg : LSt }, now := now, ms := rowMi n (miF f), id := id, tmo := tmo : BSt }
 c).L.room),
 SV.d
 (Value.int IntKind.u64
 (begB
 { L := { room := L.room, first := L.first, next := L.next, last := L.last, es := rowPk k pg : LSt }, now := now, ms := rowMi n (miF f), id := id, tmo := tmo : BSt }
 c).L.first),
 SV.d
 (Value.int IntKind.u64
 (begB
 { L := { room := L.room, first := L.first, next := L.next, last := L.last, es := rowPk k pg : LSt }, now := now, ms := rowMi n (miF f), id := id, tmo := tmo : BSt }
 c).L.next),
 SV.d
 (Value.int IntKind.i64
 (begB
 { L := { room := L.room, first := L.first, next := L.next, last := L.last, es := rowPk k pg : LSt }, now := now, ms := rowMi n (miF f), id := id, tmo := tmo : BSt }
 c).L.last),
 SV.sl 10 4 0
 (begB
 { L := { room := L.room, first := L.first, next := L.next, last := L.last, es := rowPk k pg : LSt }, now := now, ms := rowMi n (miF f), id := id, tmo := tmo : BSt }
 c).L.es.length
 0],
 AB.dead, AB.dead,
 AB.cells 63
 [SV.d (Value.int IntKind.i64 a), SV.d (Value.int IntKind.i64 b), SV.d (Value.int IntKind.i64 c),
 SV.d (Value.int IntKind.u64 d)],
 AB.row 80 15
 (begB { L := L, now := now, ms := rowMi n (miF f), id := id, tmo := tmo : BSt } c).ms.length
 (miG (begB { L := L, now := now, ms := rowMi n (miF f), id := id, tmo := tmo : BSt } c).ms),
 AB.row 36 4
 (begB
 { L := { room := L.room, first := L.first, next := L.next, last := L.last, es := rowPk k pg : LSt }, now := now, ms := rowMi n (miF f), id := id, tmo := tmo : BSt }
 c).L.es.length
 (pkG
 (begB
 { L := { room := L.room, first := L.first, next := L.next, last := L.last, es := rowPk k pg : LSt }, now := now, ms := rowMi n (miF f), id := id, tmo := tmo : BSt }
 c).L.es),
 AB.row 80 15
 (begB
 { L := { room := L.room, first := L.first, next := L.next, last := L.last, es := rowPk k pg : LSt }, now := now, ms := rowMi n (miF f), id := id, tmo := tmo : BSt }
 c).ms.length
 (miG
 (begB
 { L := { room := L.room, first := L.first, next := L.next, last := L.last, es := rowPk k pg : LSt }, now := now, ms := rowMi n (miF f), id := id, tmo := tmo : BSt }
 c).ms)])))
 (T.ret
 (AV.e (EV.s (SV.c (Value.bool false))),
 [AB.cells 95
 [SV.ptr 1 0,
 SV.d
 (Value.int IntKind.i64
 (begB { L := L, now := now, ms := rowMi n (miF f), id := id, tmo := tmo : BSt } c).now),
 SV.sl 9 15 0
 (begB { L := L, now := now, ms := rowMi n (miF f), id := id, tmo := tmo : BSt } c).ms.length 0,
 SV.d
 (Value.int IntKind.i64
 (begB { L := L, now := now, ms := rowMi n (miF f), id := id, tmo := tmo : BSt } c).id),
 SV.d
 (Value.int IntKind.i64
 (begB { L := L, now := now, ms := rowMi n (miF f), id := id, tmo := tmo : BSt } c).tmo)],
 AB.cells 86
 [SV.d
 (Value.int IntKind.i64
 (begB { L := L, now := now, ms := rowMi n (miF f), id := id, tmo := tmo : BSt } c).L.room),
 SV.d
 (Value.int IntKind.u64
 (begB { L := L, now := now, ms := rowMi n (miF f), id := id, tmo := tmo : BSt } c).L.first),
 SV.d
 (Value.int IntKind.u64
 (begB { L := L, now := now, ms := rowMi n (miF f), id := id, tmo := tmo : BSt } c).L.next),
 SV.d
 (Value.int IntKind.i64
 (begB { L := L, now := now, ms := rowMi n (miF f), id := id, tmo := tmo : BSt } c).L.last),
 SV.mp 2],
 AB.pm (begB { L := L, now := now, ms := rowMi n (miF f), id := id, tmo := tmo : BSt } c).L.es, AB.dead,
 AB.cells 72
 [SV.ptr 5 0,
 SV.sl 11 15 0
 (begB
 { L := { room := L.room, first := L.first, next := L.next, last := L.last, es := rowPk k pg : LSt }, now := now, ms := rowMi n (miF f), id := id, tmo := tmo : BSt }
 c).ms.length
 0,
 SV.d
 (Value.int IntKind.i64
 (begB
 { L := { room := L.room, first := L.first, next := L.next, last := L.last, es := rowPk k pg : LSt }, now := now, ms := rowMi n (miF f), id := id, tmo := tmo : BSt }
 c).id),
 SV.d
 (Value.int IntKind.i64
 (begB
 { L := { room := L.room, first := L.first, next := L.next, last := L.last, es := rowPk k pg : LSt }, now := now, ms := rowMi n (miF f), id := id, tmo := tmo : BSt }
 c).tmo),
 SV.d
 (Value.int IntKind.i64
 (begB
 { L := { room := L.room, first := L.first, next := L.next, last := L.last, es := rowPk k pg : LSt }, now := now, ms := rowMi n (miF f), id := id, tmo := tmo : BSt }
 c).now)],
 AB.cells 44
 [SV.d
 (Value.int IntKind.i64
 (begB
 { L := { room := L.room, first := L.first, next := L.next, last := L.last, es := rowPk k pg : LSt }, now := now, ms := rowMi n (miF f), id := id, tmo := tmo : BSt }
 c).L.room),
 SV.d
 (Value.int IntKind.u64
 (begB
 { L := { room := L.room, first := L.first, next := L.next, last := L.last, es := rowPk k pg : LSt }, now := now, ms := rowMi n (miF f), id := id, tmo := tmo : BSt }
 c).L.first),
 SV.d
 (Value.int IntKind.u64
 (begB
 { L := { room := L.room, first := L.first, next := L.next, last := L.last, es := rowPk k pg : LSt }, now := now, ms := rowMi n (miF f), id := id, tmo := tmo : BSt }
 c).L.next),
 SV.d
 (Value.int IntKind.i64
 (begB
 { L := { room := L.room, first := L.first, next := L.next, last := L.last, es := rowPk k pg : LSt }, now := now, ms := rowMi n (miF f), id := id, tmo := tmo : BSt }
 c).L.last),
 SV.sl 10 4 0
 (begB
 { L := { room := L.room, first := L.first, next := L.next, last := L.last, es := rowPk k pg : LSt }, now := now, ms := rowMi n (miF f), id := id, tmo := tmo : BSt }
 c).L.es.length
 0],
 AB.dead, AB.dead,
 AB.cells 63
 [SV.d (Value.int IntKind.i64 a), SV.d (Value.int IntKind.i64 b), SV.d (Value.int IntKind.i64 c),
 SV.d (Value.int IntKind.u64 d)],
 AB.row 80 15 (begB { L := L, now := now, ms := rowMi n (miF f), id := id, tmo := tmo : BSt } c).ms.length
 (miG (begB { L := L, now := now, ms := rowMi n (miF f), id := id, tmo := tmo : BSt } c).ms),
 AB.row 36 4
 (begB
 { L := { room := L.room, first := L.first, next := L.next, last := L.last, es := rowPk k pg : LSt }, now := now, ms := rowMi n (miF f), id := id, tmo := tmo : BSt }
 c).L.es.length
 (pkG
 (begB
 { L := { room := L.room, first := L.first, next := L.next, last := L.last, es := rowPk k pg : LSt }, now := now, ms := rowMi n (miF f), id := id, tmo := tmo : BSt }
 c).L.es),
 AB.row 80 15
 (begB
 { L := { room := L.room, first := L.first, next := L.next, last := L.last, es := rowPk k pg : LSt }, now := now, ms := rowMi n (miF f), id := id, tmo := tmo : BSt }
 c).ms.length
 (miG
 (begB
 { L := { room := L.room, first := L.first, next := L.next, last := L.last, es := rowPk k pg : LSt }, now := now, ms := rowMi n (miF f), id := id, tmo := tmo : BSt }
 c).ms)])))))
 (T.ite (a == 1)
 (T.need
 ((n = n ∧ MiRow n (miF f)) ∧
 { L := L, now := now, ms := rowMi n (miF f), id := id, tmo := tmo : BSt }.Ok ∧
 anyB { L := L, now := now, ms := rowMi n (miF f), id := id, tmo := tmo : BSt })
 (T.need
 (((n = n ∧ MiRow n (miF f)) ∧ k = k ∧ PkRow k pg) ∧
 { L := { room := L.room, first := L.first, next := L.next, last := L.last, es := rowPk k pg : LSt }, now := now, ms := rowMi n (miF f), id := id, tmo := tmo : BSt }.Ok ∧
 anyB
 { L := { room := L.room, first := L.first, next := L.next, last := L.last, es := rowPk k pg : LSt }, now := now, ms := rowMi n (miF f), id := id, tmo := tmo : BSt })
 (T.ite
 (sbN { L := L, now := now, ms := rowMi n (miF f), id := id, tmo := tmo : BSt } b c ==
 sbN
 { L := { room := L.room, first := L.first, next := L.next, last := L.last, es := rowPk k pg : LSt }, now := now, ms := rowMi n (miF f), id := id, tmo := tmo : BSt }
 b c)
 (T.ite
 (sbE { L := L, now := now, ms := rowMi n (miF f), id := id, tmo := tmo : BSt } b c ==
 sbE
 { L := { room := L.room, first := L.first, next := L.next, last := L.last, es := rowPk k pg : LSt }, now := now, ms := rowMi n (miF f), id := id, tmo := tmo : BSt }
 b c)
 (T.ret
 (AV.e (EV.s (SV.c (Value.bool true))),
 [AB.cells 95
 [SV.ptr 1 0,
 SV.d
 (Value.int IntKind.i64
 (sbB { L := L, now := now, ms := rowMi n (miF f), id := id, tmo := tmo : BSt } (b, c).fst
 (b, c).snd).now),
 SV.sl 9 15 0
 (sbB { L := L, now := now, ms := rowMi n (miF f), id := id, tmo := tmo : BSt } (b, c).fst
 (b, c).snd).ms.length
 0,
 SV.d
 (Value.int IntKind.i64
 (sbB { L := L, now := now, ms := rowMi n (miF f), id := id, tmo := tmo : BSt } (b, c).fst
 (b, c).snd).id),
 SV.d
 (Value.int IntKind.i64
 (sbB { L := L, now := now, ms := rowMi n (miF f), id := id, tmo := tmo : BSt } (b, c).fst
 (b, c).snd).tmo)],
 AB.cells 86
 [SV.d
 (Value.int IntKind.i64
 (sbB { L := L, now := now, ms := rowMi n (miF f), id := id, tmo := tmo : BSt } (b, c).fst
 (b, c).snd).L.room),
 SV.d
 (Value.int IntKind.u64
 (sbB { L := L, now := now, ms := rowMi n (miF f), id := id, tmo := tmo : BSt } (b, c).fst
 (b, c).snd).L.first),
 SV.d
 (Value.int IntKind.u64
 (sbB { L := L, now := now, ms := rowMi n (miF f), id := id, tmo := tmo : BSt } (b, c).fst
 (b, c).snd).L.next),
 SV.d
 (Value.int IntKind.i64
 (sbB { L := L, now := now, ms := rowMi n (miF f), id := id, tmo := tmo : BSt } (b, c).fst
 (b, c).snd).L.last),
 SV.mp 2],
 AB.pm
 (sbB { L := L, now := now, ms := rowMi n (miF f), id := id, tmo := tmo : BSt } (b, c).fst
 (b, c).snd).L.es,
 AB.dead,
 AB.cells 72
 [SV.ptr 5 0,
 SV.sl 11 15 0
 (sbB
 { L := { room := L.room, first := L.first, next := L.next, last := L.last, es := rowPk k pg : LSt }, now := now, ms := rowMi n (miF f), id := id, tmo := tmo : BSt }
 (b, c).fst (b, c).snd).ms.length
 0,
 SV.d
 (Value.int IntKind.i64
 (sbB
 { L := { room := L.room, first := L.first, next := L.next, last := L.last, es := rowPk k pg : LSt }, now := now, ms := rowMi n (miF f), id := id, tmo := tmo : BSt }
 (b, c).fst (b, c).snd).id),
 SV.d
 (Value.int IntKind.i64
 (sbB
 { L := { room := L.room, first := L.first, next := L.next, last := L.last, es := rowPk k pg : LSt }, now := now, ms := rowMi n (miF f), id := id, tmo := tmo : BSt }
 (b, c).fst (b, c).snd).tmo),
 SV.d
 (Value.int IntKind.i64
 (sbB
 { L := { room := L.room, first := L.first, next := L.next, last := L.last, es := rowPk k pg : LSt }, now := now, ms := rowMi n (miF f), id := id, tmo := tmo : BSt }
 (b, c).fst (b, c).snd).now)],
 AB.cells 44
 [SV.d
 (Value.int IntKind.i64
 (sbB
 { L := { room := L.room, first := L.first, next := L.next, last := L.last, es := rowPk k pg : LSt }, now := now, ms := rowMi n (miF f), id := id, tmo := tmo : BSt }
 (b, c).fst (b, c).snd).L.room),
 SV.d
 (Value.int IntKind.u64
 (sbB
 { L := { room := L.room, first := L.first, next := L.next, last := L.last, es := rowPk k pg : LSt }, now := now, ms := rowMi n (miF f), id := id, tmo := tmo : BSt }
 (b, c).fst (b, c).snd).L.first),
 SV.d
 (Value.int IntKind.u64
 (sbB
 { L := { room := L.room, first := L.first, next := L.next, last := L.last, es := rowPk k pg : LSt }, now := now, ms := rowMi n (miF f), id := id, tmo := tmo : BSt }
 (b, c).fst (b, c).snd).L.next),
 SV.d
 (Value.int IntKind.i64
 (sbB
 { L := { room := L.room, first := L.first, next := L.next, last := L.last, es := rowPk k pg : LSt }, now := now, ms := rowMi n (miF f), id := id, tmo := tmo : BSt }
 (b, c).fst (b, c).snd).L.last),
 SV.sl 10 4 0
 (sbB
 { L := { room := L.room, first := L.first, next := L.next, last := L.last, es := rowPk k pg : LSt }, now := now, ms := rowMi n (miF f), id := id, tmo := tmo : BSt }
 (b, c).fst (b, c).snd).L.es.length
 0],
 AB.dead, AB.dead,
 AB.cells 63
 [SV.d (Value.int IntKind.i64 a), SV.d (Value.int IntKind.i64 b), SV.d (Value.int IntKind.i64 c),
 SV.d (Value.int IntKind.u64 d)],
 AB.row 80 15
 (sbB { L := L, now := now, ms := rowMi n (miF f), id := id, tmo := tmo : BSt } (b, c).fst
 (b, c).snd).ms.length
 (miG
 (sbB { L := L, now := now, ms := rowMi n (miF f), id := id, tmo := tmo : BSt } (b, c).fst
 (b, c).snd).ms),
 AB.row 36 4
 (sbB
 { L := { room := L.room, first := L.first, next := L.next, last := L.last, es := rowPk k pg : LSt }, now := now, ms := rowMi n (miF f), id := id, tmo := tmo : BSt }
 (b, c).fst (b, c).snd).L.es.length
 (pkG
 (sbB
 { L := { room := L.room, first := L.first, next := L.next, last := L.last, es := rowPk k pg : LSt }, now := now, ms := rowMi n (miF f), id := id, tmo := tmo : BSt }
 (b, c).fst (b, c).snd).L.es),
 AB.row 80 15
 (sbB
 { L := { room := L.room, first := L.first, next := L.next, last := L.last, es := rowPk k pg : LSt }, now := now, ms := rowMi n (miF f), id := id, tmo := tmo : BSt }
 (b, c).fst (b, c).snd).ms.length
 (miG
 (sbB
 { L := { room := L.room, first := L.first, next := L.next, last := L.last, es := rowPk k pg : LSt }, now := now, ms := rowMi n (miF f), id := id, tmo := tmo : BSt }
 (b, c).fst (b, c).snd).ms)]))
 (T.ret
 (AV.e (EV.s (SV.c (Value.bool false))),
 [AB.cells 95
 [SV.ptr 1 0,
 SV.d
 (Value.int IntKind.i64
 (sbB { L := L, now := now, ms := rowMi n (miF f), id := id, tmo := tmo : BSt } (b, c).fst
 (b, c).snd).now),
 SV.sl 9 15 0
 (sbB { L := L, now := now, ms := rowMi n (miF f), id := id, tmo := tmo : BSt } (b, c).fst
 (b, c).snd).ms.length
 0,
 SV.d
 (Value.int IntKind.i64
 (sbB { L := L, now := now, ms := rowMi n (miF f), id := id, tmo := tmo : BSt } (b, c).fst
 (b, c).snd).id),
 SV.d
 (Value.int IntKind.i64
 (sbB { L := L, now := now, ms := rowMi n (miF f), id := id, tmo := tmo : BSt } (b, c).fst
 (b, c).snd).tmo)],
 AB.cells 86
 [SV.d
 (Value.int IntKind.i64
 (sbB { L := L, now := now, ms := rowMi n (miF f), id := id, tmo := tmo : BSt } (b, c).fst
 (b, c).snd).L.room),
 SV.d
 (Value.int IntKind.u64
 (sbB { L := L, now := now, ms := rowMi n (miF f), id := id, tmo := tmo : BSt } (b, c).fst
 (b, c).snd).L.first),
 SV.d
 (Value.int IntKind.u64
 (sbB { L := L, now := now, ms := rowMi n (miF f), id := id, tmo := tmo : BSt } (b, c).fst
 (b, c).snd).L.next),
 SV.d
 (Value.int IntKind.i64
 (sbB { L := L, now := now, ms := rowMi n (miF f), id := id, tmo := tmo : BSt } (b, c).fst
 (b, c).snd).L.last),
 SV.mp 2],
 AB.pm
 (sbB { L := L, now := now, ms := rowMi n (miF f), id := id, tmo := tmo : BSt } (b, c).fst
 (b, c).snd).L.es,
 AB.dead,
 AB.cells 72
 [SV.ptr 5 0,
 SV.sl 11 15 0
 (sbB
 { L := { room := L.room, first := L.first, next := L.next, last := L.last, es := rowPk k pg : LSt }, now := now, ms := rowMi n (miF f), id := id, tmo := tmo : BSt }
 (b, c).fst (b, c).snd).ms.length
 0,
 SV.d
 (Value.int IntKind.i64
 (sbB
 { L := { room := L.room, first := L.first, next := L.next, last := L.last, es := rowPk k pg : LSt }, now := now, ms := rowMi n (miF f), id := id, tmo := tmo : BSt }
 (b, c).fst (b, c).snd).id),
 SV.d
 (Value.int IntKind.i64
 (sbB
 { L := { room := L.room, first := L.first, next := L.next, last := L.last, es := rowPk k pg : LSt }, now := now, ms := rowMi n (miF f), id := id, tmo := tmo : BSt }
 (b, c).fst (b, c).snd).tmo),
 SV.d
 (Value.int IntKind.i64
 (sbB
 { L := { room := L.room, first := L.first, next := L.next, last := L.last, es := rowPk k pg : LSt }, now := now, ms := rowMi n (miF f), id := id, tmo := tmo : BSt }
 (b, c).fst (b, c).snd).now)],
 AB.cells 44
 [SV.d
 (Value.int IntKind.i64
 (sbB
 { L := { room := L.room, first := L.first, next := L.next, last := L.last, es := rowPk k pg : LSt }, now := now, ms := rowMi n (miF f), id := id, tmo := tmo : BSt }
 (b, c).fst (b, c).snd).L.room),
 SV.d
 (Value.int IntKind.u64
 (sbB
 { L := { room := L.room, first := L.first, next := L.next, last := L.last, es := rowPk k pg : LSt }, now := now, ms := rowMi n (miF f), id := id, tmo := tmo : BSt }
 (b, c).fst (b, c).snd).L.first),
 SV.d
 (Value.int IntKind.u64
 (sbB
 { L := { room := L.room, first := L.first, next := L.next, last := L.last, es := rowPk k pg : LSt }, now := now, ms := rowMi n (miF f), id := id, tmo := tmo : BSt }
 (b, c).fst (b, c).snd).L.next),
 SV.d
 (Value.int IntKind.i64
 (sbB
 { L := { room := L.room, first := L.first, next := L.next, last := L.last, es := rowPk k pg : LSt }, now := now, ms := rowMi n (miF f), id := id, tmo := tmo : BSt }
 (b, c).fst (b, c).snd).L.last),
 SV.sl 10 4 0
 (sbB
 { L := { room := L.room, first := L.first, next := L.next, last := L.last, es := rowPk k pg : LSt }, now := now, ms := rowMi n (miF f), id := id, tmo := tmo : BSt }
 (b, c).fst (b, c).snd).L.es.length
 0],
 AB.dead, AB.dead,
 AB.cells 63
 [SV.d (Value.int IntKind.i64 a), SV.d (Value.int IntKind.i64 b), SV.d (Value.int IntKind.i64 c),
 SV.d (Value.int IntKind.u64 d)],
 AB.row 80 15
 (sbB { L := L, now := now, ms := rowMi n (miF f), id := id, tmo := tmo : BSt } (b, c).fst
 (b, c).snd).ms.length
 (miG
 (sbB { L := L, now := now, ms := rowMi n (miF f), id := id, tmo := tmo : BSt } (b, c).fst
 (b, c).snd).ms),
 AB.row 36 4
 (sbB
 { L := { room := L.room, first := L.first, next := L.next, last := L.last, es := rowPk k pg : LSt }, now := now, ms := rowMi n (miF f), id := id, tmo := tmo : BSt }
 (b, c).fst (b, c).snd).L.es.length
 (pkG
 (sbB
 { L := { room := L.room, first := L.first, next := L.next, last := L.last, es := rowPk k pg : LSt }, now := now, ms := rowMi n (miF f), id := id, tmo := tmo : BSt }
 (b, c).fst (b, c).snd).L.es),
 AB.row 80 15
 (sbB
 { L := { room := L.room, first := L.first, next := L.next, last := L.last, es := rowPk k pg : LSt }, now := now, ms := rowMi n (miF f), id := id, tmo := tmo : BSt }
 (b, c).fst (b, c).snd).ms.length
 (miG
 (sbB
 { L := { room := L.room, first := L.first, next := L.next, last := L.last, es := rowPk k pg : LSt }, now := now, ms := rowMi n (miF f), id := id, tmo := tmo : BSt }
 (b, c).fst (b, c).snd).ms)])))
 (T.ret
 (AV.e (EV.s (SV.c (Value.bool false))),
 [AB.cells 95
 [SV.ptr 1 0,
 SV.d
 (Value.int IntKind.i64
 (sbB { L := L, now := now, ms := rowMi n (miF f), id := id, tmo := tmo : BSt } (b, c).fst
 (b, c).snd).now),
 SV.sl 9 15 0
 (sbB { L := L, now := now, ms := rowMi n (miF f), id := id, tmo := tmo : BSt } (b, c).fst
 (b, c).snd).ms.length
 0,
 SV.d
 (Value.int IntKind.i64
 (sbB { L := L, now := now, ms := rowMi n (miF f), id := id, tmo := tmo : BSt } (b, c).fst
 (b, c).snd).id),
 SV.d
 (Value.int IntKind.i64
 (sbB { L := L, now := now, ms := rowMi n (miF f), id := id, tmo := tmo : BSt } (b, c).fst
 (b, c).snd).tmo)],
 AB.cells 86
 [SV.d
 (Value.int IntKind.i64
 (sbB { L := L, now := now, ms := rowMi n (miF f), id := id, tmo := tmo : BSt } (b, c).fst
 (b, c).snd).L.room),
 SV.d
 (Value.int IntKind.u64
 (sbB { L := L, now := now, ms := rowMi n (miF f), id := id, tmo := tmo : BSt } (b, c).fst
 (b, c).snd).L.first),
 SV.d
 (Value.int IntKind.u64
 (sbB { L := L, now := now, ms := rowMi n (miF f), id := id, tmo := tmo : BSt } (b, c).fst
 (b, c).snd).L.next),
 SV.d
 (Value.int IntKind.i64
 (sbB { L := L, now := now, ms := rowMi n (miF f), id := id, tmo := tmo : BSt } (b, c).fst
 (b, c).snd).L.last),
 SV.mp 2],
 AB.pm
 (sbB { L := L, now := now, ms := rowMi n (miF f), id := id, tmo := tmo : BSt } (b, c).fst
 (b, c).snd).L.es,
 AB.dead,
 AB.cells 72
 [SV.ptr 5 0,
 SV.sl 11 15 0
 (sbB
 { L := { room := L.room, first := L.first, next := L.next, last := L.last, es := rowPk k pg : LSt }, now := now, ms := rowMi n (miF f), id := id, tmo := tmo : BSt }
 (b, c).fst (b, c).snd).ms.length
 0,
 SV.d
 (Value.int IntKind.i64
 (sbB
 { L := { room := L.room, first := L.first, next := L.next, last := L.last, es := rowPk k pg : LSt }, now := now, ms := rowMi n (miF f), id := id, tmo := tmo : BSt }
 (b, c).fst (b, c).snd).id),
 SV.d
 (Value.int IntKind.i64
 (sbB
 { L := { room := L.room, first := L.first, next := L.next, last := L.last, es := rowPk k pg : LSt }, now := now, ms := rowMi n (miF f), id := id, tmo := tmo : BSt }
 (b, c).fst (b, c).snd).tmo),
 SV.d
 (Value.int IntKind.i64
 (sbB
 { L := { room := L.room, first := L.first, next := L.next, last := L.last, es := rowPk k pg : LSt }, now := now, ms := rowMi n (miF f), id := id, tmo := tmo : BSt }
 (b, c).fst (b, c).snd).now)],
 AB.cells 44
 [SV.d
 (Value.int IntKind.i64
 (sbB
 { L := { room := L.room, first := L.first, next := L.next, last := L.last, es := rowPk k pg : LSt }, now := now, ms := rowMi n (miF f), id := id, tmo := tmo : BSt }
 (b, c).fst (b, c).snd).L.room),
 SV.d
 (Value.int IntKind.u64
 (sbB
 { L := { room := L.room, first := L.first, next := L.next, last := L.last, es := rowPk k pg : LSt }, now := now, ms := rowMi n (miF f), id := id, tmo := tmo : BSt }
 (b, c).fst (b, c).snd).L.first),
 SV.d
 (Value.int IntKind.u64
 (sbB
 { L := { room := L.room, first := L.first, next := L.next, last := L.last, es := rowPk k pg : LSt }, now := now, ms := rowMi n (miF f), id := id, tmo := tmo : BSt }
 (b, c).fst (b, c).snd).L.next),
 SV.d
 (Value.int IntKind.i64
 (sbB
 { L := { room := L.room, first := L.first, next := L.next, last := L.last, es := rowPk k pg : LSt }, now := now, ms := rowMi n (miF f), id := id, tmo := tmo : BSt }
 (b, c).fst (b, c).snd).L.last),
 SV.sl 10 4 0
 (sbB
 { L := { room := L.room, first := L.first, next := L.next, last := L.last, es := rowPk k pg : LSt }, now := now, ms := rowMi n (miF f), id := id, tmo := tmo : BSt }
 (b, c).fst (b, c).snd).L.es.length
 0],
 AB.dead, AB.dead,
 AB.cells 63
 [SV.d (Value.int IntKind.i64 a), SV.d (Value.int IntKind.i64 b), SV.d (Value.int IntKind.i64 c),
 SV.d (Value.int IntKind.u64 d)],
 AB.row 80 15
 (sbB { L := L, now := now, ms := rowMi n (miF f), id := id, tmo := tmo : BSt } (b, c).fst
 (b, c).snd).ms.length
 (miG
 (sbB { L := L, now := now, ms := rowMi n (miF f), id := id, tmo := tmo : BSt } (b, c).fst
 (b, c).snd).ms),
 AB.row 36 4
 (sbB
 { L := { room := L.room, first := L.first, next := L.next, last := L.last, es := rowPk k pg : LSt }, now := now, ms := rowMi n (miF f), id := id, tmo := tmo : BSt }
 (b, c).fst (b, c).snd).L.es.length
 (pkG
 (sbB
 { L := { room := L.room, first := L.first, next := L.next, last := L.last, es := rowPk k pg : LSt }, now := now, ms := rowMi n (miF f), id := id, tmo := tmo : BSt }
 (b, c).fst (b, c).snd).L.es),
 AB.row 80 15
 (sbB
 { L := { room := L.room, first := L.first, next := L.next, last := L.last, es := rowPk k pg : LSt }, now := now, ms := rowMi n (miF f), id := id, tmo := tmo : BSt }
 (b, c).fst (b, c).snd).ms.length
 (miG
 (sbB
 { L := { room := L.room, first := L.first, next := L.next, last := L.last, es := rowPk k pg : LSt }, now := now, ms := rowMi n (miF f), id := id, tmo := tmo : BSt }
 (b, c).fst (b, c).snd).ms)])))))
 (T.ite (a == 2)
 (T.need
 ((n = n ∧ MiRow n (miF f)) ∧
 { L := L, now := now, ms := rowMi n (miF f), id := id, tmo := tmo : BSt }.Ok ∧
 anyB { L := L, now := now, ms := rowMi n (miF f), id := id, tmo := tmo : BSt })
 (T.need
 (((n = n ∧ MiRow n (miF f)) ∧ k = k ∧ PkRow k pg) ∧
 { L := { room := L.room, first := L.first, next := L.next, last := L.last, es := rowPk k pg : LSt }, now := now, ms := rowMi n (miF f), id := id, tmo := tmo : BSt }.Ok ∧
 anyB
 { L := { room := L.room, first := L.first, next := L.next, last := L.last, es := rowPk k pg : LSt }, now := now, ms := rowMi n (miF f), id := id, tmo := tmo : BSt })
 (T.ite
 (if false = true then
 !((enP { L := L, now := now, ms := rowMi n (miF f), id := id, tmo := tmo : BSt } d c).seq ==
 (enP
 { L := { room := L.room, first := L.first, next := L.next, last := L.last, es := rowPk k pg : LSt }, now := now, ms := rowMi n (miF f), id := id, tmo := tmo : BSt }
 d c).seq &&
 ((enP { L := L, now := now, ms := rowMi n (miF f), id := id, tmo := tmo : BSt } d c).mi ==
 (enP
 { L := { room := L.room, first := L.first, next := L.next, last := L.last, es := rowPk k pg : LSt }, now := now, ms := rowMi n (miF f), id := id, tmo := tmo : BSt }
 d c).mi &&
 ((enP { L := L, now := now, ms := rowMi n (miF f), id := id, tmo := tmo : BSt } d c).size ==
 (enP
 { L := { room := L.room, first := L.first, next := L.next, last := L.last, es := rowPk k pg : LSt }, now := now, ms := rowMi n (miF f), id := id, tmo := tmo : BSt }
 d c).size &&
 ((enP { L := L, now := now, ms := rowMi n (miF f), id := id, tmo := tmo : BSt } d c).sent ==
 (enP
 { L := { room := L.room, first := L.first, next := L.next, last := L.last, es := rowPk k pg : LSt }, now := now, ms := rowMi n (miF f), id := id, tmo := tmo : BSt }
 d c).sent &&
 true))))
 else
 (enP { L := L, now := now, ms := rowMi n (miF f), id := id, tmo := tmo : BSt } d c).seq ==
 (enP
 { L := { room := L.room, first := L.first, next := L.next, last := L.last, es := rowPk k pg : LSt }, now := now, ms := rowMi n (miF f), id := id, tmo := tmo : BSt }
 d c).seq &&
 ((enP { L := L, now := now, ms := rowMi n (miF f), id := id, tmo := tmo : BSt } d c).mi ==
 (enP
 { L := { room := L.room, first := L.first, next := L.next, last := L.last, es := rowPk k pg : LSt }, now := now, ms := rowMi n (miF f), id := id, tmo := tmo : BSt }
 d c).mi &&
 ((enP { L := L, now := now, ms := rowMi n (miF f), id := id, tmo := tmo : BSt } d c).size ==
 (enP
 { L := { room := L.room, first := L.first, next := L.next, last := L.last, es := rowPk k pg : LSt }, now := now, ms := rowMi n (miF f), id := id, tmo := tmo : BSt }
 d c).size &&
 ((enP { L := L, now := now, ms := rowMi n (miF f), id := id, tmo := tmo : BSt } d c).sent ==
 (enP
 { L := { room := L.room, first := L.first, next := L.next, last := L.last, es := rowPk k pg : LSt }, now := now, ms := rowMi n (miF f), id := id, tmo := tmo : BSt }
 d c).sent &&
 true))))
 (T.ite
 (enE { L := L, now := now, ms := rowMi n (miF f), id := id, tmo := tmo : BSt } d c ==
 enE
 { L := { room := L.room, first := L.first, next := L.next, last := L.last, es := rowPk k pg : LSt }, now := now, ms := rowMi n (miF f), id := id, tmo := tmo : BSt }
 d c)
 (T.ret
 (AV.e (EV.s (SV.c (Value.bool true))),
 [AB.cells 95
 [SV.ptr 1 0,
 SV.d
 (Value.int IntKind.i64
 (akB { L := L, now := now, ms := rowMi n (miF f), id := id, tmo := tmo : BSt } (d, c).fst
 (d, c).snd).now),
 SV.sl 9 15 0
 (akB { L := L, now := now, ms := rowMi n (miF f), id := id, tmo := tmo : BSt } (d, c).fst
 (d, c).snd).ms.length
 0,
 SV.d
 (Value.int IntKind.i64
 (akB { L := L, now := now, ms := rowMi n (miF f), id := id, tmo := tmo : BSt } (d, c).fst
 (d, c).snd).id),
 SV.d
 (Value.int IntKind.i64
 (akB { L := L, now := now, ms := rowMi n (miF f), id := id, tmo := tmo : BSt } (d, c).fst
 (d, c).snd).tmo)],
 AB.cells 86
 [SV.d
 (Value.int IntKind.i64
 (akB { L := L, now := now, ms := rowMi n (miF f), id := id, tmo := tmo : BSt } (d, c).fst
 (d, c).snd).L.room),
 SV.d
 (Value.int IntKind.u64
 (akB { L := L, now := now, ms := rowMi n (miF f), id := id, tmo := tmo : BSt } (d, c).fst
 (d, c).snd).L.first),
 SV.d
 (Value.int IntKind.u64
 (akB { L := L, now := now, ms := rowMi n (miF f), id := id, tmo := tmo : BSt } (d, c).fst
 (d, c).snd).L.next),
 SV.d
 (Value.int IntKind.i64
 (akB { L := L, now := now, ms := rowMi n (miF f), id := id, tmo := tmo : BSt } (d, c).fst
 (d, c).snd).L.last),
 SV.mp 2],
 AB.pm
 (akB { L := L, now := now, ms := rowMi n (miF f), id := id, tmo := tmo : BSt } (d, c).fst
 (d, c).snd).L.es,
 AB.dead,
 AB.cells 72
 [SV.ptr 5 0,
 SV.sl 12 15 0
 (akB
 { L := { room := L.room, first := L.first, next := L.next, last := L.last, es := rowPk k pg : LSt }, now := now, ms := rowMi n (miF f), id := id, tmo := tmo : BSt }
 (d, c).fst (d, c).snd).ms.length
 0,
 SV.d
 (Value.int IntKind.i64
 (akB
 { L := { room := L.room, first := L.first, next := L.next, last := L.last, es := rowPk k pg : LSt }, now := now, ms := rowMi n (miF f), id := id, tmo := tmo : BSt }
 (d, c).fst (d, c).snd).id),
 SV.d
 (Value.int IntKind.i64
 (akB
 { L := { room := L.room, first := L.first, next := L.next, last := L.last, es := rowPk k pg : LSt }, now := now, ms := rowMi n (miF f), id := id, tmo := tmo : BSt }
 (d, c).fst (d, c).snd).tmo),
 SV.d
 (Value.int IntKind.i64
 (akB
 { L := { room := L.room, first := L.first, next := L.next, last := L.last, es := rowPk k pg : LSt }, now := now, ms := rowMi n (miF f), id := id, tmo := tmo : BSt }
 (d, c).fst (d, c).snd).now)],
 AB.cells 44
 [SV.d
 (Value.int IntKind.i64
 (akB
 { L := { room := L.room, first := L.first, next := L.next, last := L.last, es := rowPk k pg : LSt }, now := now, ms := rowMi n (miF f), id := id, tmo := tmo : BSt }
 (d, c).fst (d, c).snd).L.room),
 SV.d
 (Value.int IntKind.u64
 (akB
 { L := { room := L.room, first := L.first, next := L.next, last := L.last, es := rowPk k pg : LSt }, now := now, ms := rowMi n (miF f), id := id, tmo := tmo : BSt }
 (d, c).fst (d, c).snd).L.first),
 SV.d
 (Value.int IntKind.u64
 (akB
 { L := { room := L.room, first := L.first, next := L.next, last := L.last, es := rowPk k pg : LSt }, now := now, ms := rowMi n (miF f), id := id, tmo := tmo : BSt }
 (d, c).fst (d, c).snd).L.next),
 SV.d
 (Value.int IntKind.i64
 (akB
 { L := { room := L.room, first := L.first, next := L.next, last := L.last, es := rowPk k pg : LSt }, now := now, ms := rowMi n (miF f), id := id, tmo := tmo : BSt }
 (d, c).fst (d, c).snd).L.last),
 SV.sl 11 4 0
 (akB
 { L := { room := L.room, first := L.first, next := L.next, last := L.last, es := rowPk k pg : LSt }, now := now, ms := rowMi n (miF f), id := id, tmo := tmo : BSt }
 (d, c).fst (d, c).snd).L.es.length
 0],
 AB.dead, AB.dead,
 AB.cells 63
 [SV.d (Value.int IntKind.i64 a), SV.d (Value.int IntKind.i64 b), SV.d (Value.int IntKind.i64 c),
 SV.d (Value.int IntKind.u64 d)],
 AB.row 80 15
 (akB { L := L, now := now, ms := rowMi n (miF f), id := id, tmo := tmo : BSt } (d, c).fst
 (d, c).snd).ms.length
 (miG
 (akB { L := L, now := now, ms := rowMi n (miF f), id := id, tmo := tmo : BSt } (d, c).fst
 (d, c).snd).ms),
 AB.cells 36
 [SV.d
 (Value.int IntKind.u64
 (enP { L := L, now := now, ms := rowMi n (miF f), id := id, tmo := tmo : BSt } d c).seq),
 SV.d
 (Value.int IntKind.i64
 (enP { L := L, now := now, ms := rowMi n (miF f), id := id, tmo := tmo : BSt } d c).mi),
 SV.d
 (Value.int IntKind.i64
 (enP { L := L, now := now, ms := rowMi n (miF f), id := id, tmo := tmo : BSt } d c).size),
 SV.d
 (Value.int IntKind.i64
 (enP { L := L, now := now, ms := rowMi n (miF f), id := id, tmo := tmo : BSt } d c).sent)],
 AB.row 36 4
 (akB
 { L := { room := L.room, first := L.first, next := L.next, last := L.last, es := rowPk k pg : LSt }, now := now, ms := rowMi n (miF f), id := id, tmo := tmo : BSt }
 (d, c).fst (d, c).snd).L.es.length
 (pkG
 (akB
 { L := { room := L.room, first := L.first, next := L.next, last := L.last, es := rowPk k pg : LSt }, now := now, ms := rowMi n (miF f), id := id, tmo := tmo : BSt }
 (d, c).fst (d, c).snd).L.es),
 AB.row 80 15
 (akB
 { L := { room := L.room, first := L.first, next := L.next, last := L.last, es := rowPk k pg : LSt }, now := now, ms := rowMi n (miF f), id := id, tmo := tmo : BSt }
 (d, c).fst (d, c).snd).ms.length
 (miG
 (akB
 { L := { room := L.room, first := L.first, next := L.next, last := L.last, es := rowPk k pg : LSt }, now := now, ms := rowMi n (miF f), id := id, tmo := tmo : BSt }
 (d, c).fst (d, c).snd).ms)]))
 (T.ret
 (AV.e (EV.s (SV.c (Value.bool false))),
 [AB.cells 95
 [SV.ptr 1 0,
 SV.d
 (Value.int IntKind.i64
 (akB { L := L, now := now, ms := rowMi n (miF f), id := id, tmo := tmo : BSt } (d, c).fst
 (d, c).snd).now),
 SV.sl 9 15 0
 (akB { L := L, now := now, ms := rowMi n (miF f), id := id, tmo := tmo : BSt } (d, c).fst
 (d, c).snd).ms.length
 0,
 SV.d
 (Value.int IntKind.i64
 (akB { L := L, now := now, ms := rowMi n (miF f), id := id, tmo := tmo : BSt } (d, c).fst
 (d, c).snd).id),
 SV.d
 (Value.int IntKind.i64
 (akB { L := L, now := now, ms := rowMi n (miF f), id := id, tmo := tmo : BSt } (d, c).fst
 (d, c).snd).tmo)],
 AB.cells 86
 [SV.d
 (Value.int IntKind.i64
 (akB { L := L, now := now, ms := rowMi n (miF f), id := id, tmo := tmo : BSt } (d, c).fst
 (d, c).snd).L.room),
 SV.d
 (Value.int IntKind.u64
 (akB { L := L, now := now, ms := rowMi n (miF f), id := id, tmo := tmo : BSt } (d, c).fst
 (d, c).snd).L.first),
 SV.d
 (Value.int IntKind.u64
 (akB { L := L, now := now, ms := rowMi n (miF f), id := id, tmo := tmo : BSt } (d, c).fst
 (d, c).snd).L.next),
 SV.d
 (Value.int IntKind.i64
 (akB { L := L, now := now, ms := rowMi n (miF f), id := id, tmo := tmo : BSt } (d, c).fst
 (d, c).snd).L.last),
 SV.mp 2],
 AB.pm
 (akB { L := L, now := now, ms := rowMi n (miF f), id := id, tmo := tmo : BSt } (d, c).fst
 (d, c).snd).L.es,
 AB.dead,
 AB.cells 72
 [SV.ptr 5 0,
 SV.sl 12 15 0
 (akB
 { L := { room := L.room, first := L.first, next := L.next, last := L.last, es := rowPk k pg : LSt }, now := now, ms := rowMi n (miF f), id := id, tmo := tmo : BSt }
 (d, c).fst (d, c).snd).ms.length
 0,
 SV.d
 (Value.int IntKind.i64
 (akB
 { L := { room := L.room, first := L.first, next := L.next, last := L.last, es := rowPk k pg : LSt }, now := now, ms := rowMi n (miF f), id := id, tmo := tmo : BSt }
 (d, c).fst (d, c).snd).id),
 SV.d
 (Value.int IntKind.i64
 (akB
 { L := { room := L.room, first := L.first, next := L.next, last := L.last, es := rowPk k pg : LSt }, now := now, ms := rowMi n (miF f), id := id, tmo := tmo : BSt }
 (d, c).fst (d, c).snd).tmo),
 SV.d
 (Value.int IntKind.i64
 (akB
 { L := { room := L.room, first := L.first, next := L.next, last := L.last, es := rowPk k pg : LSt }, now := now, ms := rowMi n (miF f), id := id, tmo := tmo : BSt }
 (d, c).fst (d, c).snd).now)],
 AB.cells 44
 [SV.d
 (Value.int IntKind.i64
 (akB
 { L := { room := L.room, first := L.first, next := L.next, last := L.last, es := rowPk k pg : LSt }, now := now, ms := rowMi n (miF f), id := id, tmo := tmo : BSt }
 (d, c).fst (d, c).snd).L.room),
 SV.d
 (Value.int IntKind.u64
 (akB
 { L := { room := L.room, first := L.first, next := L.next, last := L.last, es := rowPk k pg : LSt }, now := now, ms := rowMi n (miF f), id := id, tmo := tmo : BSt }
 (d, c).fst (d, c).snd).L.first),
 SV.d
 (Value.int IntKind.u64
 (akB
 { L := { room := L.room, first := L.first, next := L.next, last := L.last, es := rowPk k pg : LSt }, now := now, ms := rowMi n (miF f), id := id, tmo := tmo : BSt }
 (d, c).fst (d, c).snd).L.next),
 SV.d
 (Value.int IntKind.i64
 (akB
 { L := { room := L.room, first := L.first, next := L.next, last := L.last, es := rowPk k pg : LSt }, now := now, ms := rowMi n (miF f), id := id, tmo := tmo : BSt }
 (d, c).fst (d, c).snd).L.last),
 SV.sl 11 4 0
 (akB
 { L := { room := L.room, first := L.first, next := L.next, last := L.last, es := rowPk k pg : LSt }, now := now, ms := rowMi n (miF f), id := id, tmo := tmo : BSt }
 (d, c).fst (d, c).snd).L.es.length
 0],
 AB.dead, AB.dead,
 AB.cells 63
 [SV.d (Value.int IntKind.i64 a), SV.d (Value.int IntKind.i64 b), SV.d (Value.int IntKind.i64 c),
 SV.d (Value.int IntKind.u64 d)],
 AB.row 80 15
 (akB { L := L, now := now, ms := rowMi n (miF f), id := id, tmo := tmo : BSt } (d, c).fst
 (d, c).snd).ms.length
 (miG
 (akB { L := L, now := now, ms := rowMi n (miF f), id := id, tmo := tmo : BSt } (d, c).fst
 (d, c).snd).ms),
 AB.cells 36
 [SV.d
 (Value.int IntKind.u64
 (enP { L := L, now := now, ms := rowMi n (miF f), id := id, tmo := tmo : BSt } d c).seq),
 SV.d
 (Value.int IntKind.i64
 (enP { L := L, now := now, ms := rowMi n (miF f), id := id, tmo := tmo : BSt } d c).mi),
 SV.d
 (Value.int IntKind.i64
 (enP { L := L, now := now, ms := rowMi n (miF f), id := id, tmo := tmo : BSt } d c).size),
 SV.d
 (Value.int IntKind.i64
 (enP { L := L, now := now, ms := rowMi n (miF f), id := id, tmo := tmo : BSt } d c).sent)],
 AB.row 36 4
 (akB
 { L := { room := L.room, first := L.first, next := L.next, last := L.last, es := rowPk k pg : LSt }, now := now, ms := rowMi n (miF f), id := id, tmo := tmo : BSt }
 (d, c).fst (d, c).snd).L.es.length
 (pkG
 (akB
 { L := { room := L.room, first := L.first, next := L.next, last := L.last, es := rowPk k pg : LSt }, now := now, ms := rowMi n (miF f), id := id, tmo := tmo : BSt }
 (d, c).fst (d, c).snd).L.es),
 AB.row 80 15
 (akB
 { L := { room := L.room, first := L.first, next := L.next, last := L.last, es := rowPk k pg : LSt }, now := now, ms := rowMi n (miF f), id := id, tmo := tmo : BSt }
 (d, c).fst (d, c).snd).ms.length
 (miG
 (akB
 { L := { room := L.room, first := L.first, next := L.next, last := L.last, es := rowPk k pg : LSt }, now := now, ms := rowMi n (miF f), id := id, tmo := tmo : BSt }
 (d, c).fst (d, c).snd).ms)])))
 (T.ret
 (AV.e (EV.s (SV.c (Value.bool false))),
 [AB.cells 95
 [SV.ptr 1 0,
 SV.d
 (Value.int IntKind.i64
 (akB { L := L, now := now, ms := rowMi n (miF f), id := id, tmo := tmo : BSt } (d, c).fst
 (d, c).snd).now),
 SV.sl 9 15 0
 (akB { L := L, now := now, ms := rowMi n (miF f), id := id, tmo := tmo : BSt } (d, c).fst
 (d, c).snd).ms.length
 0,
 SV.d
 (Value.int IntKind.i64
 (akB { L := L, now := now, ms := rowMi n (miF f), id := id, tmo := tmo : BSt } (d, c).fst
 (d, c).snd).id),
 SV.d
 (Value.int IntKind.i64
 (akB { L := L, now := now, ms := rowMi n (miF f), id := id, tmo := tmo : BSt } (d, c).fst
 (d, c).snd).tmo)],
 AB.cells 86
 [SV.d
 (Value.int IntKind.i64
 (akB { L := L, now := now, ms := rowMi n (miF f), id := id, tmo := tmo : BSt } (d, c).fst
 (d, c).snd).L.room),
 SV.d
 (Value.int IntKind.u64
 (akB { L := L, now := now, ms := rowMi n (miF f), id := id, tmo := tmo : BSt } (d, c).fst
 (d, c).snd).L.first),
 SV.d
 (Value.int IntKind.u64
 (akB { L := L, now := now, ms := rowMi n (miF f), id := id, tmo := tmo : BSt } (d, c).fst
 (d, c).snd).L.next),
 SV.d
 (Value.int IntKind.i64
 (akB { L := L, now := now, ms := rowMi n (miF f), id := id, tmo := tmo : BSt } (d, c).fst
 (d, c).snd).L.last),
 SV.mp 2],
 AB.pm
 (akB { L := L, now := now, ms := rowMi n (miF f), id := id, tmo := tmo : BSt } (d, c).fst
 (d, c).snd).L.es,
 AB.dead,
 AB.cells 72
 [SV.ptr 5 0,
 SV.sl 12 15 0
 (akB
 { L := { room := L.room, first := L.first, next := L.next, last := L.last, es := rowPk k pg : LSt }, now := now, ms := rowMi n (miF f), id := id, tmo := tmo : BSt }
 (d, c).fst (d, c).snd).ms.length
 0,
 SV.d
 (Value.int IntKind.i64
 (akB
 { L := { room := L.room, first := L.first, next := L.next, last := L.last, es := rowPk k pg : LSt }, now := now, ms := rowMi n (miF f), id := id, tmo := tmo : BSt }
 (d, c).fst (d, c).snd).id),
 SV.d
 (Value.int IntKind.i64
 (akB
 { L := { room := L.room, first := L.first, next := L.next, last := L.last, es := rowPk k pg : LSt }, now := now, ms := rowMi n (miF f), id := id, tmo := tmo : BSt }
 (d, c).fst (d, c).snd).tmo),
 SV.d
 (Value.int IntKind.i64
 (akB
 { L := { room := L.room, first := L.first, next := L.next, last := L.last, es := rowPk k pg : LSt }, now := now, ms := rowMi n (miF f), id := id, tmo := tmo : BSt }
 (d, c).fst (d, c).snd).now)],
 AB.cells 44
 [SV.d
 (Value.int IntKind.i64
 (akB
 { L := { room := L.room, first := L.first, next := L.next, last := L.last, es := rowPk k pg : LSt }, now := now, ms := rowMi n (miF f), id := id, tmo := tmo : BSt }
 (d, c).fst (d, c).snd).L.room),
 SV.d
 (Value.int IntKind.u64
 (akB
 { L := { room := L.room, first := L.first, next := L.next, last := L.last, es := rowPk k pg : LSt }, now := now, ms := rowMi n (miF f), id := id, tmo := tmo : BSt }
 (d, c).fst (d, c).snd).L.first),
 SV.d
 (Value.int IntKind.u64
 (akB
 { L := { room := L.room, first := L.first, next := L.next, last := L.last, es := rowPk k pg : LSt }, now := now, ms := rowMi n (miF f), id := id, tmo := tmo : BSt }
 (d, c).fst (d, c).snd).L.next),
 SV.d
 (Value.int IntKind.i64
 (akB
 { L := { room := L.room, first := L.first, next := L.next, last := L.last, es := rowPk k pg : LSt }, now := now, ms := rowMi n (miF f), id := id, tmo := tmo : BSt }
 (d, c).fst (d, c).snd).L.last),
 SV.sl 11 4 0
 (akB
 { L := { room := L.room, first := L.first, next := L.next, last := L.last, es := rowPk k pg : LSt }, now := now, ms := rowMi n (miF f), id := id, tmo := tmo : BSt }
 (d, c).fst (d, c).snd).L.es.length
 0],
 AB.dead, AB.dead,
 AB.cells 63
 [SV.d (Value.int IntKind.i64 a), SV.d (Value.int IntKind.i64 b), SV.d (Value.int IntKind.i64 c),
 SV.d (Value.int IntKind.u64 d)],
 AB.row 80 15
 (akB { L := L, now := now, ms := rowMi n (miF f), id := id, tmo := tmo : BSt } (d, c).fst
 (d, c).snd).ms.length
 (miG
 (akB { L := L, now := now, ms := rowMi n (miF f), id := id, tmo := tmo : BSt } (d, c).fst
 (d, c).snd).ms),
 AB.cells 36
 [SV.d
 (Value.int IntKind.u64
 (enP { L := L, now := now, ms := rowMi n (miF f), id := id, tmo := tmo : BSt } d c).seq),
 SV.d
 (Value.int IntKind.i64
 (enP { L := L, now := now, ms := rowMi n (miF f), id := id, tmo := tmo : BSt } d c).mi),
 SV.d
 (Value.int IntKind.i64
 (enP { L := L, now := now, ms := rowMi n (miF f), id := id, tmo := tmo : BSt } d c).size),
 SV.d
 (Value.int IntKind.i64
 (enP { L := L, now := now, ms := rowMi n (miF f), id := id, tmo := tmo : BSt } d c).sent)],
 AB.row 36 4
 (akB
 { L := { room := L.room, first := L.first, next := L.next, last := L.last, es := rowPk k pg : LSt }, now := now, ms := rowMi n (miF f), id := id, tmo := tmo : BSt }
 (d, c).fst (d, c).snd).L.es.length
 (pkG
 (akB
 { L := { room := L.room, first := L.first, next := L.next, last := L.last, es := rowPk k pg : LSt }, now := now, ms := rowMi n (miF f), id := id, tmo := tmo : BSt }
 (d, c).fst (d, c).snd).L.es),
 AB.row 80 15
 (akB
 { L := { room := L.room, first := L.first, next := L.next, last := L.last, es := rowPk k pg : LSt }, now := now, ms := rowMi n (miF f), id := id, tmo := tmo : BSt }
 (d, c).fst (d, c).snd).ms.length
 (miG
 (akB
 { L := { room := L.room, first := L.first, next := L.next, last := L.last, es := rowPk k pg : LSt }, now := now, ms := rowMi n (miF f), id := id, tmo := tmo : BSt }
 (d, c).fst (d, c).snd).ms)])))))
 (T.ite (a == 3)
 (T.need
 ((n = n ∧ MiRow n (miF f)) ∧
 { L := L, now := now, ms := rowMi n (miF f), id := id, tmo := tmo : BSt }.Ok ∧
 anyB { L := L, now := now, ms := rowMi n (miF f), id := id, tmo := tmo : BSt })
 (T.need
 (((n = n ∧ MiRow n (miF f)) ∧ k = k ∧ PkRow k pg) ∧
 { L := { room := L.room, first := L.first, next := L.next, last := L.last, es := rowPk k pg : LSt }, now := now, ms := rowMi n (miF f), id := id, tmo := tmo : BSt }.Ok ∧
 anyB
 { L := { room := L.room, first := L.first, next := L.next, last := L.last, es := rowPk k pg : LSt }, now := now, ms := rowMi n (miF f), id := id, tmo := tmo : BSt })
 (T.ite
 (if false = true then
 !((enP { L := L, now := now, ms := rowMi n (miF f), id := id, tmo := tmo : BSt } d c).seq ==
 (enP
 { L := { room := L.room, first := L.first, next := L.next, last := L.last, es := rowPk k pg : LSt }, now := now, ms := rowMi n (miF f), id := id, tmo := tmo : BSt }
 d c).seq &&
 ((enP { L := L, now := now, ms := rowMi n (miF f), id := id, tmo := tmo : BSt } d c).mi ==
 (enP
 { L := { room := L.room, first := L.first, next := L.next, last := L.last, es := rowPk k pg : LSt }, now := now, ms := rowMi n (miF f), id := id, tmo := tmo : BSt }
 d c).mi &&
 ((enP { L := L, now := now, ms := rowMi n (miF f), id := id, tmo := tmo : BSt } d c).size ==
 (enP
 { L := { room := L.room, first := L.first, next := L.next, last := L.last, es := rowPk k pg : LSt }, now := now, ms := rowMi n (miF f), id := id, tmo := tmo : BSt }
 d c).size &&
 ((enP { L := L, now := now, ms := rowMi n (miF f), id := id, tmo := tmo : BSt } d c).sent ==
 (enP
 { L := { room := L.room, first := L.first, next := L.next, last := L.last, es := rowPk k pg : LSt }, now := now, ms := rowMi n (miF f), id := id, tmo := tmo : BSt }
 d c).sent &&
 true))))
 else
 (enP { L := L, now := now, ms := rowMi n (miF f), id := id, tmo := tmo : BSt } d c).seq ==
 (enP
 { L := { room := L.room, first := L.first, next := L.next, last := L.last, es := rowPk k pg : LSt }, now := now, ms := rowMi n (miF f), id := id, tmo := tmo : BSt }
 d c).seq &&
 ((enP { L := L, now := now, ms := rowMi n (miF f), id := id, tmo := tmo : BSt } d c).mi ==
 (enP
 { L := { room := L.room, first := L.first, next := L.next, last := L.last, es := rowPk k pg : LSt }, now := now, ms := rowMi n (miF f), id := id, tmo := tmo : BSt }
 d c).mi &&
 ((enP { L := L, now := now, ms := rowMi n (miF f), id := id, tmo := tmo : BSt } d c).size ==
 (enP
 { L := { room := L.room, first := L.first, next := L.next, last := L.last, es := rowPk k pg : LSt }, now := now, ms := rowMi n (miF f), id := id, tmo := tmo : BSt }
 d c).size &&
 ((enP { L := L, now := now, ms := rowMi n (miF f), id := id, tmo := tmo : BSt } d c).sent ==
 (enP
 { L := { room := L.room, first := L.first, next := L.next, last := L.last, es := rowPk k pg : LSt }, now := now, ms := rowMi n (miF f), id := id, tmo := tmo : BSt }
 d c).sent &&
 true))))
 (T.ite
 (enE { L := L, now := now, ms := rowMi n (miF f), id := id, tmo := tmo : BSt } d c ==
 enE
 { L := { room := L.room, first := L.first, next := L.next, last := L.last, es := rowPk k pg : LSt }, now := now, ms := rowMi n (miF f), id := id, tmo := tmo : BSt }
 d c)
 (T.ret
 (AV.e (EV.s (SV.c (Value.bool true))),
 [AB.cells 95
 [SV.ptr 1 0,
 SV.d
 (Value.int IntKind.i64
 (loB { L := L, now := now, ms := rowMi n (miF f), id := id, tmo := tmo : BSt } (d, c).fst
 (d, c).snd).now),
 SV.sl 9 15 0
 (loB { L := L, now := now, ms := rowMi n (miF f), id := id, tmo := tmo : BSt } (d, c).fst
 (d, c).snd).ms.length
 0,
 SV.d
 (Value.int IntKind.i64
 (loB { L := L, now := now, ms := rowMi n (miF f), id := id, tmo := tmo : BSt } (d, c).fst
 (d, c).snd).id),
 SV.d
 (Value.int IntKind.i64
 (loB { L := L, now := now, ms := rowMi n (miF f), id := id, tmo := tmo : BSt } (d, c).fst
 (d, c).snd).tmo)],
 AB.cells 86
 [SV.d
 (Value.int IntKind.i64
 (loB { L := L, now := now, ms := rowMi n (miF f), id := id, tmo := tmo : BSt } (d, c).fst
 (d, c).snd).L.room),
 SV.d
 (Value.int IntKind.u64
 (loB { L := L, now := now, ms := rowMi n (miF f), id := id, tmo := tmo : BSt } (d, c).fst
 (d, c).snd).L.first),
 SV.d
 (Value.int IntKind.u64
 (loB { L := L, now := now, ms := rowMi n (miF f), id := id, tmo := tmo : BSt } (d, c).fst
 (d, c).snd).L.next),
 SV.d
 (Value.int IntKind.i64
 (loB { L := L, now := now, ms := rowMi n (miF f), id := id, tmo := tmo : BSt } (d, c).fst
 (d, c).snd).L.last),
 SV.mp 2],
 AB.pm
 (loB { L := L, now := now, ms := rowMi n (miF f), id := id, tmo := tmo : BSt } (d, c).fst
 (d, c).snd).L.es,
 AB.dead,
 AB.cells 72
 [SV.ptr 5 0,
 SV.sl 12 15 0
 (loB
 { L := { room := L.room, first := L.first, next := L.next, last := L.last, es := rowPk k pg : LSt }, now := now, ms := rowMi n (miF f), id := id, tmo := tmo : BSt }
 (d, c).fst (d, c).snd).ms.length
 0,
 SV.d
 (Value.int IntKind.i64
 (loB
 { L := { room := L.room, first := L.first, next := L.next, last := L.last, es := rowPk k pg : LSt }, now := now, ms := rowMi n (miF f), id := id, tmo := tmo : BSt }
 (d, c).fst (d, c).snd).id),
 SV.d
 (Value.int IntKind.i64
 (loB
 { L := { room := L.room, first := L.first, next := L.next, last := L.last, es := rowPk k pg : LSt }, now := now, ms := rowMi n (miF f), id := id, tmo := tmo : BSt }
 (d, c).fst (d, c).snd).tmo),
 SV.d
 (Value.int IntKind.i64
 (loB
 { L := { room := L.room, first := L.first, next := L.next, last := L.last, es := rowPk k pg : LSt }, now := now, ms := rowMi n (miF f), id := id, tmo := tmo : BSt }
 (d, c).fst (d, c).snd).now)],
 AB.cells 44
 [SV.d
 (Value.int IntKind.i64
 (loB
 { L := { room := L.room, first := L.first, next := L.next, last := L.last, es := rowPk k pg : LSt }, now := now, ms := rowMi n (miF f), id := id, tmo := tmo : BSt }
 (d, c).fst (d, c).snd).L.room),
 SV.d
 (Value.int IntKind.u64
 (loB
 { L := { room := L.room, first := L.first, next := L.next, last := L.last, es := rowPk k pg : LSt }, now := now, ms := rowMi n (miF f), id := id, tmo := tmo : BSt }
 (d, c).fst (d, c).snd).L.first),
 SV.d
 (Value.int IntKind.u64
 (loB
 { L := { room := L.room, first := L.first, next := L.next, last := L.last, es := rowPk k pg : LSt }, now := now, ms := rowMi n (miF f), id := id, tmo := tmo : BSt }
 (d, c).fst (d, c).snd).L.next),
 SV.d
 (Value.int IntKind.i64
 (loB
 { L := { room := L.room, first := L.first, next := L.next, last := L.last, es := rowPk k pg : LSt }, now := now, ms := rowMi n (miF f), id := id, tmo := tmo : BSt }
 (d, c).fst (d, c).snd).L.last),
 SV.sl 11 4 0
 (loB
 { L := { room := L.room, first := L.first, next := L.next, last := L.last, es := rowPk k pg : LSt }, now := now, ms := rowMi n (miF f), id := id, tmo := tmo : BSt }
 (d, c).fst (d, c).snd).L.es.length
 0],
 AB.dead, AB.dead,
 AB.cells 63
 [SV.d (Value.int IntKind.i64 a), SV.d (Value.int IntKind.i64 b), SV.d (Value.int IntKind.i64 c),
 SV.d (Value.int IntKind.u64 d)],
 AB.row 80 15
 (loB { L := L, now := now, ms := rowMi n (miF f), id := id, tmo := tmo : BSt } (d, c).fst
 (d, c).snd).ms.length
 (miG
 (loB { L := L, now := now, ms := rowMi n (miF f), id := id, tmo := tmo : BSt } (d, c).fst
 (d, c).snd).ms),
 AB.cells 36
 [SV.d
 (Value.int IntKind.u64
 (enP { L := L, now := now, ms := rowMi n (miF f), id := id, tmo := tmo : BSt } d c).seq),
 SV.d
 (Value.int IntKind.i64
 (enP { L := L, now := now, ms := rowMi n (miF f), id := id, tmo := tmo : BSt } d c).mi),
 SV.d
 (Value.int IntKind.i64
 (enP { L := L, now := now, ms := rowMi n (miF f), id := id, tmo := tmo : BSt } d c).size),
 SV.d
 (Value.int IntKind.i64
 (enP { L := L, now := now, ms := rowMi n (miF f), id := id, tmo := tmo : BSt } d
 c).sent)],
 AB.row 36 4
 (loB
 { L := { room := L.room, first := L.first, next := L.next, last := L.last, es := rowPk k pg : LSt }, now := now, ms := rowMi n (miF f), id := id, tmo := tmo : BSt }
 (d, c).fst (d, c).snd).L.es.length
 (pkG
 (loB
 { L := { room := L.room, first := L.first, next := L.next, last := L.last, es := rowPk k pg : LSt }, now := now, ms := rowMi n (miF f), id := id, tmo := tmo : BSt }
 (d, c).fst (d, c).snd).L.es),
 AB.row 80 15
 (loB
 { L := { room := L.room, first := L.first, next := L.next, last := L.last, es := rowPk k pg : LSt }, now := now, ms := rowMi n (miF f), id := id, tmo := tmo : BSt }
 (d, c).fst (d, c).snd).ms.length
 (miG
 (loB
 { L := { room := L.room, first := L.first, next := L.next, last := L.last, es := rowPk k pg : LSt }, now := now, ms := rowMi n (miF f), id := id, tmo := tmo : BSt }
 (d, c).fst (d, c).snd).ms)]))
 (T.ret
 (AV.e (EV.s (SV.c (Value.bool false))),
 [AB.cells 95
 [SV.ptr 1 0,
 SV.d
 (Value.int IntKind.i64
 (loB { L := L, now := now, ms := rowMi n (miF f), id := id, tmo := tmo : BSt } (d, c).fst
 (d, c).snd).now),
 SV.sl 9 15 0
 (loB { L := L, now := now, ms := rowMi n (miF f), id := id, tmo := tmo : BSt } (d, c).fst
 (d, c).snd).ms.length
 0,
 SV.d
 (Value.int IntKind.i64
 (loB { L := L, now := now, ms := rowMi n (miF f), id := id, tmo := tmo : BSt } (d, c).fst
 (d, c).snd).id),
 SV.d
 (Value.int IntKind.i64
 (loB { L := L, now := now, ms := rowMi n (miF f), id := id, tmo := tmo : BSt } (d, c).fst
 (d, c).snd).tmo)],
 AB.cells 86
 [SV.d
 (Value.int IntKind.i64
 (loB { L := L, now := now, ms := rowMi n (miF f), id := id, tmo := tmo : BSt } (d, c).fst
 (d, c).snd).L.room),
 SV.d
 (Value.int IntKind.u64
 (loB { L := L, now := now, ms := rowMi n (miF f), id := id, tmo := tmo : BSt } (d, c).fst
 (d, c).snd).L.first),
 SV.d
 (Value.int IntKind.u64
 (loB { L := L, now := now, ms := rowMi n (miF f), id := id, tmo := tmo : BSt } (d, c).fst
 (d, c).snd).L.next),
 SV.d
 (Value.int IntKind.i64
 (loB { L := L, now := now, ms := rowMi n (miF f), id := id, tmo := tmo : BSt } (d, c).fst
 (d, c).snd).L.last),
 SV.mp 2],
 AB.pm
 (loB { L := L, now := now, ms := rowMi n (miF f), id := id, tmo := tmo : BSt } (d, c).fst
 (d, c).snd).L.es,
 AB.dead,
 AB.cells 72
 [SV.ptr 5 0,
 SV.sl 12 15 0
 (loB
 { L := { room := L.room, first := L.first, next := L.next, last := L.last, es := rowPk k pg : LSt }, now := now, ms := rowMi n (miF f), id := id, tmo := tmo : BSt }
 (d, c).fst (d, c).snd).ms.length
 0,
 SV.d
 (Value.int IntKind.i64
 (loB
 { L := { room := L.room, first := L.first, next := L.next, last := L.last, es := rowPk k pg : LSt }, now := now, ms := rowMi n (miF f), id := id, tmo := tmo : BSt }
 (d, c).fst (d, c).snd).id),
 SV.d
 (Value.int IntKind.i64
 (loB
 { L := { room := L.room, first := L.first, next := L.next, last := L.last, es := rowPk k pg : LSt }, now := now, ms := rowMi n (miF f), id := id, tmo := tmo : BSt }
 (d, c).fst (d, c).snd).tmo),
 SV.d
 (Value.int IntKind.i64
 (loB
 { L := { room := L.room, first := L.first, next := L.next, last := L.last, es := rowPk k pg : LSt }, now := now, ms := rowMi n (miF f), id := id, tmo := tmo : BSt }
 (d, c).fst (d, c).snd).now)],
 AB.cells 44
 [SV.d
 (Value.int IntKind.i64
 (loB
 { L := { room := L.room, first := L.first, next := L.next, last := L.last, es := rowPk k pg : LSt }, now := now, ms := rowMi n (miF f), id := id, tmo := tmo : BSt }
 (d, c).fst (d, c).snd).L.room),
 SV.d
 (Value.int IntKind.u64
 (loB
 { L := { room := L.room, first := L.first, next := L.next, last := L.last, es := rowPk k pg : LSt }, now := now, ms := rowMi n (miF f), id := id, tmo := tmo : BSt }
 (d, c).fst (d, c).snd).L.first),
 SV.d
 (Value.int IntKind.u64
 (loB
 { L := { room := L.room, first := L.first, next := L.next, last := L.last, es := rowPk k pg : LSt }, now := now, ms := rowMi n (miF f), id := id, tmo := tmo : BSt }
 (d, c).fst (d, c).snd).L.next),
 SV.d
 (Value.int IntKind.i64
 (loB
 { L := { room := L.room, first := L.first, next := L.next, last := L.last, es := rowPk k pg : LSt }, now := now, ms := rowMi n (miF f), id := id, tmo := tmo : BSt }
 (d, c).fst (d, c).snd).L.last),
 SV.sl 11 4 0
 (loB
 { L := { room := L.room, first := L.first, next := L.next, last := L.last, es := rowPk k pg : LSt }, now := now, ms := rowMi n (miF f), id := id, tmo := tmo : BSt }
 (d, c).fst (d, c).snd).L.es.length
 0],
 AB.dead, AB.dead,
 AB.cells 63
 [SV.d (Value.int IntKind.i64 a), SV.d (Value.int IntKind.i64 b), SV.d (Value.int IntKind.i64 c),
 SV.d (Value.int IntKind.u64 d)],
 AB.row 80 15
 (loB { L := L, now := now, ms := rowMi n (miF f), id := id, tmo := tmo : BSt } (d, c).fst
 (d, c).snd).ms.length
 (miG
 (loB { L := L, now := now, ms := rowMi n (miF f), id := id, tmo := tmo : BSt } (d, c).fst
 (d, c).snd).ms),
 AB.cells 36
 [SV.d
 (Value.int IntKind.u64
 (enP { L := L, now := now, ms := rowMi n (miF f), id := id, tmo := tmo : BSt } d c).seq),
 SV.d
 (Value.int IntKind.i64
 (enP { L := L, now := now, ms := rowMi n (miF f), id := id, tmo := tmo : BSt } d c).mi),
 SV.d
 (Value.int IntKind.i64
 (enP { L := L, now := now, ms := rowMi n (miF f), id := id, tmo := tmo : BSt } d c).size),
 SV.d
 (Value.int IntKind.i64
 (enP { L := L, now := now, ms := rowMi n (miF f), id := id, tmo := tmo : BSt } d
 c).sent)],
 AB.row 36 4
 (loB
 { L := { room := L.room, first := L.first, next := L.next, last := L.last, es := rowPk k pg : LSt }, now := now, ms := rowMi n (miF f), id := id, tmo := tmo : BSt }
 (d, c).fst (d, c).snd).L.es.length
 (pkG
 (loB
 { L := { room := L.room, first := L.first, next := L.next, last := L.last, es := rowPk k pg : LSt }, now := now, ms := rowMi n (miF f), id := id, tmo := tmo : BSt }
 (d, c).fst (d, c).snd).L.es),
 AB.row 80 15
 (loB
 { L := { room := L.room, first := L.first, next := L.next, last := L.last, es := rowPk k pg : LSt }, now := now, ms := rowMi n (miF f), id := id, tmo := tmo : BSt }
 (d, c).fst (d, c).snd).ms.length
 (miG
 (loB
 { L := { room := L.room, first := L.first, next := L.next, last := L.last, es := rowPk k pg : LSt }, now := now, ms := rowMi n (miF f), id := id, tmo := tmo : BSt }
 (d, c).fst (d, c).snd).ms)])))
 (T.ret
 (AV.e (EV.s (SV.c (Value.bool false))),
 [AB.cells 95
 [SV.ptr 1 0,
 SV.d
 (Value.int IntKind.i64
 (loB { L := L, now := now, ms := rowMi n (miF f), id := id, tmo := tmo : BSt } (d, c).fst
 (d, c).snd).now),
 SV.sl 9 15 0
 (loB { L := L, now := now, ms := rowMi n (miF f), id := id, tmo := tmo : BSt } (d, c).fst
 (d, c).snd).ms.length
 0,
 SV.d
 (Value.int IntKind.i64
 (loB { L := L, now := now, ms := rowMi n (miF f), id := id, tmo := tmo : BSt } (d, c).fst
 (d, c).snd).id),
 SV.d
 (Value.int IntKind.i64
 (loB { L := L, now := now, ms := rowMi n (miF f), id := id, tmo := tmo : BSt } (d, c).fst
 (d, c).snd).tmo)],
 AB.cells 86
 [SV.d
 (Value.int IntKind.i64
 (loB { L := L, now := now, ms := rowMi n (miF f), id := id, tmo := tmo : BSt } (d, c).fst
 (d, c).snd).L.room),
 SV.d
 (Value.int IntKind.u64
 (loB { L := L, now := now, ms := rowMi n (miF f), id := id, tmo := tmo : BSt } (d, c).fst
 (d, c).snd).L.first),
 SV.d
 (Value.int IntKind.u64
 (loB { L := L, now := now, ms := rowMi n (miF f), id := id, tmo := tmo : BSt } (d, c).fst
 (d, c).snd).L.next),
 SV.d
 (Value.int IntKind.i64
 (loB { L := L, now := now, ms := rowMi n (miF f), id := id, tmo := tmo : BSt } (d, c).fst
 (d, c).snd).L.last),
 SV.mp 2],
 AB.pm
 (loB { L := L, now := now, ms := rowMi n (miF f), id := id, tmo := tmo : BSt } (d, c).fst
 (d, c).snd).L.es,
 AB.dead,
 AB.cells 72
 [SV.ptr 5 0,
 SV.sl 12 15 0
 (loB
 { L := { room := L.room, first := L.first, next := L.next, last := L.last, es := rowPk k pg : LSt }, now := now, ms := rowMi n (miF f), id := id, tmo := tmo : BSt }
 (d, c).fst (d, c).snd).ms.length
 0,
 SV.d
 (Value.int IntKind.i64
 (loB
 { L := { room := L.room, first := L.first, next := L.next, last := L.last, es := rowPk k pg : LSt }, now := now, ms := rowMi n (miF f), id := id, tmo := tmo : BSt }
 (d, c).fst (d, c).snd).id),
 SV.d
 (Value.int IntKind.i64
 (loB
 { L := { room := L.room, first := L.first, next := L.next, last := L.last, es := rowPk k pg : LSt }, now := now, ms := rowMi n (miF f), id := id, tmo := tmo : BSt }
 (d, c).fst (d, c).snd).tmo),
 SV.d
 (Value.int IntKind.i64
 (loB
 { L := { room := L.room, first := L.first, next := L.next, last := L.last, es := rowPk k pg : LSt }, now := now, ms := rowMi n (miF f), id := id, tmo := tmo : BSt }
 (d, c).fst (d, c).snd).now)],
 AB.cells 44
 [SV.d
 (Value.int IntKind.i64
 (loB
 { L := { room := L.room, first := L.first, next := L.next, last := L.last, es := rowPk k pg : LSt }, now := now, ms := rowMi n (miF f), id := id, tmo := tmo : BSt }
 (d, c).fst (d, c).snd).L.room),
 SV.d
 (Value.int IntKind.u64
 (loB
 { L := { room := L.room, first := L.first, next := L.next, last := L.last, es := rowPk k pg : LSt }, now := now, ms := rowMi n (miF f), id := id, tmo := tmo : BSt }
 (d, c).fst (d, c).snd).L.first),
 SV.d
 (Value.int IntKind.u64
 (loB
 { L := { room := L.room, first := L.first, next := L.next, last := L.last, es := rowPk k pg : LSt }, now := now, ms := rowMi n (miF f), id := id, tmo := tmo : BSt }
 (d, c).fst (d, c).snd).L.next),
 SV.d
 (Value.int IntKind.i64
 (loB
 { L := { room := L.room, first := L.first, next := L.next, last := L.last, es := rowPk k pg : LSt }, now := now, ms := rowMi n (miF f), id := id, tmo := tmo : BSt }
 (d, c).fst (d, c).snd).L.last),
 SV.sl 11 4 0
 (loB
 { L := { room := L.room, first := L.first, next := L.next, last := L.last, es := rowPk k pg : LSt }, now := now, ms := rowMi n (miF f), id := id, tmo := tmo : BSt }
 (d, c).fst (d, c).snd).L.es.length
 0],
 AB.dead, AB.dead,
 AB.cells 63
 [SV.d (Value.int IntKind.i64 a), SV.d (Value.int IntKind.i64 b), SV.d (Value.int IntKind.i64 c),
 SV.d (Value.int IntKind.u64 d)],
 AB.row 80 15
 (loB { L := L, now := now, ms := rowMi n (miF f), id := id, tmo := tmo : BSt } (d, c).fst
 (d, c).snd).ms.length
 (miG
 (loB { L := L, now := now, ms := rowMi n (miF f), id := id, tmo := tmo : BSt } (d, c).fst
 (d, c).snd).ms),
 AB.cells 36
 [SV.d
 (Value.int IntKind.u64
 (enP { L := L, now := now, ms := rowMi n (miF f), id := id, tmo := tmo : BSt } d c).seq),
 SV.d
 (Value.int IntKind.i64
 (enP { L := L, now := now, ms := rowMi n (miF f), id := id, tmo := tmo : BSt } d c).mi),
 SV.d
 (Value.int IntKind.i64
 (enP { L := L, now := now, ms := rowMi n (miF f), id := id, tmo := tmo : BSt } d c).size),
 SV.d
 (Value.int IntKind.i64
 (enP { L := L, now := now, ms := rowMi n (miF f), id := id, tmo := tmo : BSt } d c).sent)],
 AB.row 36 4
 (loB
 { L := { room := L.room, first := L.first, next := L.next, last := L.last, es := rowPk k pg : LSt }, now := now, ms := rowMi n (miF f), id := id, tmo := tmo : BSt }
 (d, c).fst (d, c).snd).L.es.length
 (pkG
 (loB
 { L := { room := L.room, first := L.first, next := L.next, last := L.last, es := rowPk k pg : LSt }, now := now, ms := rowMi n (miF f), id := id, tmo := tmo : BSt }
 (d, c).fst (d, c).snd).L.es),
 AB.row 80 15
 (loB
 { L := { room := L.room, first := L.first, next := L.next, last := L.last, es := rowPk k pg : LSt }, now := now, ms := rowMi n (miF f), id := id, tmo := tmo : BSt }
 (d, c).fst (d, c).snd).ms.length
 (miG
 (loB
 { L := { room := L.room, first := L.first, next := L.next, last := L.last, es := rowPk k pg : LSt }, now := now, ms := rowMi n (miF f), id := id, tmo := tmo : BSt }
 (d, c).fst (d, c).snd).ms)])))))
 (T.ite (a == 4)
 (T.need
 ((n = n ∧ MiRow n (miF f)) ∧
 { L := L, now := now, ms := rowMi n (miF f), id := id, tmo := tmo : BSt }.Ok ∧
 anyB { L := L, now := now, ms := rowMi n (miF f), id := id, tmo := tmo : BSt })
 (T.need
 (((n = n ∧ MiRow n (miF f)) ∧ k = k ∧ PkRow k pg) ∧
 { L := { room := L.room, first := L.first, next := L.next, last := L.last, es := rowPk k pg : LSt }, now := now, ms := rowMi n (miF f), id := id, tmo := tmo : BSt }.Ok ∧
 anyB
 { L := { room := L.room, first := L.first, next := L.next, last := L.last, es := rowPk k pg : LSt }, now := now, ms := rowMi n (miF f), id := id, tmo := tmo : BSt })
 (T.need
 ((0 + (exP { L := L, now := now, ms := rowMi n (miF f), id := id, tmo := tmo : BSt } c).length ≤
 (exP { L := L, now := now, ms := rowMi n (miF f), id := id, tmo := tmo : BSt } c).length ∧
 0 +
 (exP
 { L := { room := L.room, first := L.first, next := L.next, last := L.last, es := rowPk k pg : LSt }, now := now, ms := rowMi n (miF f), id := id, tmo := tmo : BSt }
 c).length ≤
 (exP
 { L := { room := L.room, first := L.first, next := L.next, last := L.last, es := rowPk k pg : LSt }, now := now, ms := rowMi n (miF f), id := id, tmo := tmo : BSt }
 c).length ∧
 (exP { L := L, now := now, ms := rowMi n (miF f), id := id, tmo := tmo : BSt } c).length ≤ most) ∧
 PkRow (exP { L := L, now := now, ms := rowMi n (miF f), id := id, tmo := tmo : BSt } c).length
 (pkG (exP { L := L, now := now, ms := rowMi n (miF f), id := id, tmo := tmo : BSt } c)) ∧
 PkRow
 (exP
 { L := { room := L.room, first := L.first, next := L.next, last := L.last, es := rowPk k pg : LSt }, now := now, ms := rowMi n (miF f), id := id, tmo := tmo : BSt }
 c).length
 (pkG
 (exP
 { L := { room := L.room, first := L.first, next := L.next, last := L.last, es := rowPk k pg : LSt }, now := now, ms := rowMi n (miF f), id := id, tmo := tmo : BSt }
 c)))
 (T.ite
 (samePk (exP { L := L, now := now, ms := rowMi n (miF f), id := id, tmo := tmo : BSt } c).length
 (fun x =>
 decPkt
 (pkG (exP { L := L, now := now, ms := rowMi n (miF f), id := id, tmo := tmo : BSt } c) (0 + x)))
 (exP
 { L := { room := L.room, first := L.first, next := L.next, last := L.last, es := rowPk k pg : LSt }, now := now, ms := rowMi n (miF f), id := id, tmo := tmo : BSt }
 c).length
 fun x =>
 decPkt
 (pkG
 (exP
 { L := { room := L.room, first := L.first, next := L.next, last := L.last, es := rowPk k pg : LSt }, now := now, ms := rowMi n (miF f), id := id, tmo := tmo : BSt }
 c)
 (0 + x)))
 (T.ite
 (exE { L := L, now := now, ms := rowMi n (miF f), id := id, tmo := tmo : BSt } c ==
 exE
 { L := { room := L.room, first := L.first, next := L.next, last := L.last, es := rowPk k pg : LSt }, now := now, ms := rowMi n (miF f), id := id, tmo := tmo : BSt }
 c)
 (T.ret
 (AV.e (EV.s (SV.c (Value.bool true))),
 [AB.cells 95
 [SV.ptr 1 0,
 SV.d
 (Value.int IntKind.i64
 (exB { L := L, now := now, ms := rowMi n (miF f), id := id, tmo := tmo : BSt }
 c).now),
 SV.sl 9 15 0
 (exB { L := L, now := now, ms := rowMi n (miF f), id := id, tmo := tmo : BSt }
 c).ms.length
 0,
 SV.d
 (Value.int IntKind.i64
 (exB { L := L, now := now, ms := rowMi n (miF f), id := id, tmo := tmo : BSt } c).id),
 SV.d
 (Value.int IntKind.i64
 (exB { L := L, now := now, ms := rowMi n (miF f), id := id, tmo := tmo : BSt }
 c).tmo)],
 AB.cells 86
 [SV.d
 (Value.int IntKind.i64
 (exB { L := L, now := now, ms := rowMi n (miF f), id := id, tmo := tmo : BSt }
 c).L.room),
 SV.d
 (Value.int IntKind.u64
 (exB { L := L, now := now, ms := rowMi n (miF f), id := id, tmo := tmo : BSt }
 c).L.first),
 SV.d
 (Value.int IntKind.u64
 (exB { L := L, now := now, ms := rowMi n (miF f), id := id, tmo := tmo : BSt }
 c).L.next),
 SV.d
 (Value.int IntKind.i64
 (exB { L := L, now := now, ms := rowMi n (miF f), id := id, tmo := tmo : BSt }
 c).L.last),
 SV.mp 2],
 AB.pm (exB { L := L, now := now, ms := rowMi n (miF f), id := id, tmo := tmo : BSt } c).L.es,
 AB.dead,
 AB.cells 72
 [SV.ptr 5 0,
 SV.sl 12 15 0
 (exB
 { L := { room := L.room, first := L.first, next := L.next, last := L.last, es := rowPk k pg : LSt }, now := now, ms := rowMi n (miF f), id := id, tmo := tmo : BSt }
 c).ms.length
 0,
 SV.d
 (Value.int IntKind.i64
 (exB
 { L := { room := L.room, first := L.first, next := L.next, last := L.last, es := rowPk k pg : LSt }, now := now, ms := rowMi n (miF f), id := id, tmo := tmo : BSt }
 c).id),
 SV.d
 (Value.int IntKind.i64
 (exB
 { L := { room := L.room, first := L.first, next := L.next, last := L.last, es := rowPk k pg : LSt }, now := now, ms := rowMi n (miF f), id := id, tmo := tmo : BSt }
 c).tmo),
 SV.d
 (Value.int IntKind.i64
 (exB
 { L := { room := L.room, first := L.first, next := L.next, last := L.last, es := rowPk k pg : LSt }, now := now, ms := rowMi n (miF f), id := id, tmo := tmo : BSt }
 c).now)],
 AB.cells 44
 [SV.d
 (Value.int IntKind.i64
 (exB
 { L := { room := L.room, first := L.first, next := L.next, last := L.last, es := rowPk k pg : LSt }, now := now, ms := rowMi n (miF f), id := id, tmo := tmo : BSt }
 c).L.room),
 SV.d
 (Value.int IntKind.u64
 (exB
 { L := { room := L.room, first := L.first, next := L.next, last := L.last, es := rowPk k pg : LSt }, now := now, ms := rowMi n (miF f), id := id, tmo := tmo : BSt }
 c).L.first),
 SV.d
 (Value.int IntKind.u64
 (exB
 { L := { room := L.room, first := L.first, next := L.next, last := L.last, es := rowPk k pg : LSt }, now := now, ms := rowMi n (miF f), id := id, tmo := tmo : BSt }
 c).L.next),
 SV.d
 (Value.int IntKind.i64
 (exB
 { L := { room := L.room, first := L.first, next := L.next, last := L.last, es := rowPk k pg : LSt }, now := now, ms := rowMi n (miF f), id := id, tmo := tmo : BSt }
 c).L.last),
 SV.sl 11 4 0
 (exB
 { L := { room := L.room, first := L.first, next := L.next, last := L.last, es := rowPk k pg : LSt }, now := now, ms := rowMi n (miF f), id := id, tmo := tmo : BSt }
 c).L.es.length
 0],
 AB.dead, AB.dead,
 AB.cells 63
 [SV.d (Value.int IntKind.i64 a), SV.d (Value.int IntKind.i64 b),
 SV.d (Value.int IntKind.i64 c), SV.d (Value.int IntKind.u64 d)],
 AB.row 80 15
 (exB { L := L, now := now, ms := rowMi n (miF f), id := id, tmo := tmo : BSt } c).ms.length
 (miG (exB { L := L, now := now, ms := rowMi n (miF f), id := id, tmo := tmo : BSt } c).ms),
 AB.row 36 4
 (exP { L := L, now := now, ms := rowMi n (miF f), id := id, tmo := tmo : BSt } c).length
 (pkG (exP { L := L, now := now, ms := rowMi n (miF f), id := id, tmo := tmo : BSt } c)),
 AB.row 36 4
 (exB
 { L := { room := L.room, first := L.first, next := L.next, last := L.last, es := rowPk k pg : LSt }, now := now, ms := rowMi n (miF f), id := id, tmo := tmo : BSt }
 c).L.es.length
 (pkG
 (exB
 { L := { room := L.room, first := L.first, next := L.next, last := L.last, es := rowPk k pg : LSt }, now := now, ms := rowMi n (miF f), id := id, tmo := tmo : BSt }
 c).L.es),
 AB.row 80 15
 (exB
 { L := { room := L.room, first := L.first, next := L.next, last := L.last, es := rowPk k pg : LSt }, now := now, ms := rowMi n (miF f), id := id, tmo := tmo : BSt }
 c).ms.length
 (miG
 (exB
 { L := { room := L.room, first := L.first, next := L.next, last := L.last, es := rowPk k pg : LSt }, now := now, ms := rowMi n (miF f), id := id, tmo := tmo : BSt }
 c).ms)]))
 (T.ret
 (AV.e (EV.s (SV.c (Value.bool false))),
 [AB.cells 95
 [SV.ptr 1 0,
 SV.d
 (Value.int IntKind.i64
 (exB { L := L, now := now, ms := rowMi n (miF f), id := id, tmo := tmo : BSt }
 c).now),
 SV.sl 9 15 0
 (exB { L := L, now := now, ms := rowMi n (miF f), id := id, tmo := tmo : BSt }
 c).ms.length
 0,
 SV.d
 (Value.int IntKind.i64
 (exB { L := L, now := now, ms := rowMi n (miF f), id := id, tmo := tmo : BSt } c).id),
 SV.d
 (Value.int IntKind.i64
 (exB { L := L, now := now, ms := rowMi n (miF f), id := id, tmo := tmo : BSt }
 c).tmo)],
 AB.cells 86
 [SV.d
 (Value.int IntKind.i64
 (exB { L := L, now := now, ms := rowMi n (miF f), id := id, tmo := tmo : BSt }
 c).L.room),
 SV.d
 (Value.int IntKind.u64
 (exB { L := L, now := now, ms := rowMi n (miF f), id := id, tmo := tmo : BSt }
 c).L.first),
 SV.d
 (Value.int IntKind.u64
 (exB { L := L, now := now, ms := rowMi n (miF f), id := id, tmo := tmo : BSt }
 c).L.next),
 SV.d
 (Value.int IntKind.i64
 (exB { L := L, now := now, ms := rowMi n (miF f), id := id, tmo := tmo : BSt }
 c).L.last),
 SV.mp 2],
 AB.pm (exB { L := L, now := now, ms := rowMi n (miF f), id := id, tmo := tmo : BSt } c).L.es,
 AB.dead,
 AB.cells 72
 [SV.ptr 5 0,
 SV.sl 12 15 0
 (exB
 { L := { room := L.room, first := L.first, next := L.next, last := L.last, es := rowPk k pg : LSt }, now := now, ms := rowMi n (miF f), id := id, tmo := tmo : BSt }
 c).ms.length
 0,
 SV.d
 (Value.int IntKind.i64
 (exB
 { L := { room := L.room, first := L.first, next := L.next, last := L.last, es := rowPk k pg : LSt }, now := now, ms := rowMi n (miF f), id := id, tmo := tmo : BSt }
 c).id),
 SV.d
 (Value.int IntKind.i64
 (exB
 { L := { room := L.room, first := L.first, next := L.next, last := L.last, es := rowPk k pg : LSt }, now := now, ms := rowMi n (miF f), id := id, tmo := tmo : BSt }
 c).tmo),
 SV.d
 (Value.int IntKind.i64
 (exB
 { L := { room := L.room, first := L.first, next := L.next, last := L.last, es := rowPk k pg : LSt }, now := now, ms := rowMi n (miF f), id := id, tmo := tmo : BSt }
 c).now)],
 AB.cells 44
 [SV.d
 (Value.int IntKind.i64
 (exB
 { L := { room := L.room, first := L.first, next := L.next, last := L.last, es := rowPk k pg : LSt }, now := now, ms := rowMi n (miF f), id := id, tmo := tmo : BSt }
 c).L.room),
 SV.d
 (Value.int IntKind.u64
 (exB
 { L := { room := L.room, first := L.first, next := L.next, last := L.last, es := rowPk k pg : LSt }, now := now, ms := rowMi n (miF f), id := id, tmo := tmo : BSt }
 c).L.first),
 SV.d
 (Value.int IntKind.u64
 (exB
 { L := { room := L.room, first := L.first, next := L.next, last := L.last, es := rowPk k pg : LSt }, now := now, ms := rowMi n (miF f), id := id, tmo := tmo : BSt }
 c).L.next),
 SV.d
 (Value.int IntKind.i64
 (exB
 { L := { room := L.room, first := L.first, next := L.next, last := L.last, es := rowPk k pg : LSt }, now := now, ms := rowMi n (miF f), id := id, tmo := tmo : BSt }
 c).L.last),
 SV.sl 11 4 0
 (exB
 { L := { room := L.room, first := L.first, next := L.next, last := L.last, es := rowPk k pg : LSt }, now := now, ms := rowMi n (miF f), id := id, tmo := tmo : BSt }
 c).L.es.length
 0],
 AB.dead, AB.dead,
 AB.cells 63
 [SV.d (Value.int IntKind.i64 a), SV.d (Value.int IntKind.i64 b),
 SV.d (Value.int IntKind.i64 c), SV.d (Value.int IntKind.u64 d)],
 AB.row 80 15
 (exB { L := L, now := now, ms := rowMi n (miF f), id := id, tmo := tmo : BSt } c).ms.length
 (miG (exB { L := L, now := now, ms := rowMi n (miF f), id := id, tmo := tmo : BSt } c).ms),
 AB.row 36 4
 (exP { L := L, now := now, ms := rowMi n (miF f), id := id, tmo := tmo : BSt } c).length
 (pkG (exP { L := L, now := now, ms := rowMi n (miF f), id := id, tmo := tmo : BSt } c)),
 AB.row 36 4
 (exB
 { L := { room := L.room, first := L.first, next := L.next, last := L.last, es := rowPk k pg : LSt }, now := now, ms := rowMi n (miF f), id := id, tmo := tmo : BSt }
 c).L.es.length
 (pkG
 (exB
 { L := { room := L.room, first := L.first, next := L.next, last := L.last, es := rowPk k pg : LSt }, now := now, ms := rowMi n (miF f), id := id, tmo := tmo : BSt }
 c).L.es),
 AB.row 80 15
 (exB
 { L := { room := L.room, first := L.first, next := L.next, last := L.last, es := rowPk k pg : LSt }, now := now, ms := rowMi n (miF f), id := id, tmo := tmo : BSt }
 c).ms.length
 (miG
 (exB
 { L := { room := L.room, first := L.first, next := L.next, last := L.last, es := rowPk k pg : LSt }, now := now, ms := rowMi n (miF f), id := id, tmo := tmo : BSt }
 c).ms)])))
 (T.ret
 (AV.e (EV.s (SV.c (Value.bool false))),
 [AB.cells 95
 [SV.ptr 1 0,
 SV.d
 (Value.int IntKind.i64
 (exB { L := L, now := now, ms := rowMi n (miF f), id := id, tmo := tmo : BSt } c).now),
 SV.sl 9 15 0
 (exB { L := L, now := now, ms := rowMi n (miF f), id := id, tmo := tmo : BSt }
 c).ms.length
 0,
 SV.d
 (Value.int IntKind.i64
 (exB { L := L, now := now, ms := rowMi n (miF f), id := id, tmo := tmo : BSt } c).id),
 SV.d
 (Value.int IntKind.i64
 (exB { L := L, now := now, ms := rowMi n (miF f), id := id, tmo := tmo : BSt } c).tmo)],
 AB.cells 86
 [SV.d
 (Value.int IntKind.i64
 (exB { L := L, now := now, ms := rowMi n (miF f), id := id, tmo := tmo : BSt }
 c).L.room),
 SV.d
 (Value.int IntKind.u64
 (exB { L := L, now := now, ms := rowMi n (miF f), id := id, tmo := tmo : BSt }
 c).L.first),
 SV.d
 (Value.int IntKind.u64
 (exB { L := L, now := now, ms := rowMi n (miF f), id := id, tmo := tmo : BSt }
 c).L.next),
 SV.d
 (Value.int IntKind.i64
 (exB { L := L, now := now, ms := rowMi n (miF f), id := id, tmo := tmo : BSt }
 c).L.last),
 SV.mp 2],
 AB.pm (exB { L := L, now := now, ms := rowMi n (miF f), id := id, tmo := tmo : BSt } c).L.es,
 AB.dead,
 AB.cells 72
 [SV.ptr 5 0,
 SV.sl 12 15 0
 (exB
 { L := { room := L.room, first := L.first, next := L.next, last := L.last, es := rowPk k pg : LSt }, now := now, ms := rowMi n (miF f), id := id, tmo := tmo : BSt }
 c).ms.length
 0,
 SV.d
 (Value.int IntKind.i64
 (exB
 { L := { room := L.room, first := L.first, next := L.next, last := L.last, es := rowPk k pg : LSt }, now := now, ms := rowMi n (miF f), id := id, tmo := tmo : BSt }
 c).id),
 SV.d
 (Value.int IntKind.i64
 (exB
 { L := { room := L.room, first := L.first, next := L.next, last := L.last, es := rowPk k pg : LSt }, now := now, ms := rowMi n (miF f), id := id, tmo := tmo : BSt }
 c).tmo),
 SV.d
 (Value.int IntKind.i64
 (exB
 { L := { room := L.room, first := L.first, next := L.next, last := L.last, es := rowPk k pg : LSt }, now := now, ms := rowMi n (miF f), id := id, tmo := tmo : BSt }
 c).now)],
 AB.cells 44
 [SV.d
 (Value.int IntKind.i64
 (exB
 { L := { room := L.room, first := L.first, next := L.next, last := L.last, es := rowPk k pg : LSt }, now := now, ms := rowMi n (miF f), id := id, tmo := tmo : BSt }
 c).L.room),
 SV.d
 (Value.int IntKind.u64
 (exB
 { L := { room := L.room, first := L.first, next := L.next, last := L.last, es := rowPk k pg : LSt }, now := now, ms := rowMi n (miF f), id := id, tmo := tmo : BSt }
 c).L.first),
 SV.d
 (Value.int IntKind.u64
 (exB
 { L := { room := L.room, first := L.first, next := L.next, last := L.last, es := rowPk k pg : LSt }, now := now, ms := rowMi n (miF f), id := id, tmo := tmo : BSt }
 c).L.next),
 SV.d
 (Value.int IntKind.i64
 (exB
 { L := { room := L.room, first := L.first, next := L.next, last := L.last, es := rowPk k pg : LSt }, now := now, ms := rowMi n (miF f), id := id, tmo := tmo : BSt }
 c).L.last),
 SV.sl 11 4 0
 (exB
 { L := { room := L.room, first := L.first, next := L.next, last := L.last, es := rowPk k pg : LSt }, now := now, ms := rowMi n (miF f), id := id, tmo := tmo : BSt }
 c).L.es.length
 0],
 AB.dead, AB.dead,
 AB.cells 63
 [SV.d (Value.int IntKind.i64 a), SV.d (Value.int IntKind.i64 b),
 SV.d (Value.int IntKind.i64 c), SV.d (Value.int IntKind.u64 d)],
 AB.row 80 15
 (exB { L := L, now := now, ms := rowMi n (miF f), id := id, tmo := tmo : BSt } c).ms.length
 (miG (exB { L := L, now := now, ms := rowMi n (miF f), id := id, tmo := tmo : BSt } c).ms),
 AB.row 36 4
 (exP { L := L, now := now, ms := rowMi n (miF f), id := id, tmo := tmo : BSt } c).length
 (pkG (exP { L := L, now := now, ms := rowMi n (miF f), id := id, tmo := tmo : BSt } c)),
 AB.row 36 4
 (exB
 { L := { room := L.room, first := L.first, next := L.next, last := L.last, es := rowPk k pg : LSt }, now := now, ms := rowMi n (miF f), id := id, tmo := tmo : BSt }
 c).L.es.length
 (pkG
 (exB
 { L := { room := L.room, first := L.first, next := L.next, last := L.last, es := rowPk k pg : LSt }, now := now, ms := rowMi n (miF f), id := id, tmo := tmo : BSt }
 c).L.es),
 AB.row 80 15
 (exB
 { L := { room := L.room, first := L.first, next := L.next, last := L.last, es := rowPk k pg : LSt }, now := now, ms := rowMi n (miF f), id := id, tmo := tmo : BSt }
 c).ms.length
 (miG
 (exB
 { L := { room := L.room, first := L.first, next := L.next, last := L.last, es := rowPk k pg : LSt }, now := now, ms := rowMi n (miF f), id := id, tmo := tmo : BSt }
 c).ms)]))))))
 (T.need
 ((n = n ∧ MiRow n (miF f)) ∧ { L := L, now := now, ms := rowMi n (miF f), id := id, tmo := tmo : BSt }.Ok)
 (T.ite (decide (tkP { L := L, now := now, ms := rowMi n (miF f), id := id, tmo := tmo : BSt }))
 (T.need
 (((n = n ∧ MiRow n (miF f)) ∧ k = k ∧ PkRow k pg) ∧
 { L := { room := L.room, first := L.first, next := L.next, last := L.last, es := rowPk k pg : LSt }, now := now, ms := rowMi n (miF f), id := id, tmo := tmo : BSt }.Ok)
 (T.ite
 (decide
 (tkP
 { L := { room := L.room, first := L.first, next := L.next, last := L.last, es := rowPk k pg : LSt }, now := now, ms := rowMi n (miF f), id := id, tmo := tmo : BSt }))
 (T.ite
 (if false = true then
 !(((rowMi n (miF f)).getD 0 Mi.zero).id == ((rowMi n (miF f)).getD 0 Mi.zero).id &&
 (((rowMi n (miF f)).getD 0 Mi.zero).frm == ((rowMi n (miF f)).getD 0 Mi.zero).frm &&
 (((rowMi n (miF f)).getD 0 Mi.zero).to == ((rowMi n (miF f)).getD 0 Mi.zero).to &&
 (((rowMi n (miF f)).getD 0 Mi.zero).sent == ((rowMi n (miF f)).getD 0 Mi.zero).sent &&
 (((rowMi n (miF f)).getD 0 Mi.zero).acked == ((rowMi n (miF f)).getD 0 Mi.zero).acked &&
 (((rowMi n (miF f)).getD 0 Mi.zero).lost == ((rowMi n (miF f)).getD 0 Mi.zero).lost &&
 (((rowMi n (miF f)).getD 0 Mi.zero).packets ==
 ((rowMi n (miF f)).getD 0 Mi.zero).packets &&
 (((rowMi n (miF f)).getD 0 Mi.zero).hits ==
 ((rowMi n (miF f)).getD 0 Mi.zero).hits &&
 (((rowMi n (miF f)).getD 0 Mi.zero).drops ==
 ((rowMi n (miF f)).getD 0 Mi.zero).drops &&
 (((rowMi n (miF f)).getD 0 Mi.zero).n ==
 ((rowMi n (miF f)).getD 0 Mi.zero).n &&
 (((rowMi n (miF f)).getD 0 Mi.zero).sumT ==
 ((rowMi n (miF f)).getD 0 Mi.zero).sumT &&
 (((rowMi n (miF f)).getD 0 Mi.zero).sumR ==
 ((rowMi n (miF f)).getD 0 Mi.zero).sumR &&
 (((rowMi n (miF f)).getD 0 Mi.zero).sumTT ==
 ((rowMi n (miF f)).getD 0 Mi.zero).sumTT &&
 (((rowMi n (miF f)).getD 0 Mi.zero).sumTR ==
 ((rowMi n (miF f)).getD 0 Mi.zero).sumTR &&
 (((rowMi n (miF f)).getD 0 Mi.zero).sumRR ==
 ((rowMi n (miF f)).getD 0 Mi.zero).sumRR &&
 true)))))))))))))))
 else
 ((rowMi n (miF f)).getD 0 Mi.zero).id == ((rowMi n (miF f)).getD 0 Mi.zero).id &&
 (((rowMi n (miF f)).getD 0 Mi.zero).frm == ((rowMi n (miF f)).getD 0 Mi.zero).frm &&
 (((rowMi n (miF f)).getD 0 Mi.zero).to == ((rowMi n (miF f)).getD 0 Mi.zero).to &&
 (((rowMi n (miF f)).getD 0 Mi.zero).sent == ((rowMi n (miF f)).getD 0 Mi.zero).sent &&
 (((rowMi n (miF f)).getD 0 Mi.zero).acked == ((rowMi n (miF f)).getD 0 Mi.zero).acked &&
 (((rowMi n (miF f)).getD 0 Mi.zero).lost == ((rowMi n (miF f)).getD 0 Mi.zero).lost &&
 (((rowMi n (miF f)).getD 0 Mi.zero).packets ==
 ((rowMi n (miF f)).getD 0 Mi.zero).packets &&
 (((rowMi n (miF f)).getD 0 Mi.zero).hits ==
 ((rowMi n (miF f)).getD 0 Mi.zero).hits &&
 (((rowMi n (miF f)).getD 0 Mi.zero).drops ==
 ((rowMi n (miF f)).getD 0 Mi.zero).drops &&
 (((rowMi n (miF f)).getD 0 Mi.zero).n == ((rowMi n (miF f)).getD 0 Mi.zero).n &&
 (((rowMi n (miF f)).getD 0 Mi.zero).sumT ==
 ((rowMi n (miF f)).getD 0 Mi.zero).sumT &&
 (((rowMi n (miF f)).getD 0 Mi.zero).sumR ==
 ((rowMi n (miF f)).getD 0 Mi.zero).sumR &&
 (((rowMi n (miF f)).getD 0 Mi.zero).sumTT ==
 ((rowMi n (miF f)).getD 0 Mi.zero).sumTT &&
 (((rowMi n (miF f)).getD 0 Mi.zero).sumTR ==
 ((rowMi n (miF f)).getD 0 Mi.zero).sumTR &&
 (((rowMi n (miF f)).getD 0 Mi.zero).sumRR ==
 ((rowMi n (miF f)).getD 0 Mi.zero).sumRR &&
 true)))))))))))))))
 (T.ret
 (AV.e (EV.s (SV.c (Value.bool true))),
 [AB.cells 95
 [SV.ptr 1 0, SV.d (Value.int IntKind.i64 now), SV.sl 9 15 0 (rowMi n (miF f)).tail.length 0,
 SV.d (Value.int IntKind.i64 id), SV.d (Value.int IntKind.i64 tmo)],
 AB.cells 86
 [SV.d (Value.int IntKind.i64 L.room), SV.d (Value.int IntKind.u64 L.first),
 SV.d (Value.int IntKind.u64 L.next), SV.d (Value.int IntKind.i64 L.last), SV.mp 2],
 AB.pm L.es, AB.dead,
 AB.cells 72
 [SV.ptr 5 0, SV.sl 12 15 0 (rowMi n (miF f)).tail.length 0, SV.d (Value.int IntKind.i64 id),
 SV.d (Value.int IntKind.i64 tmo), SV.d (Value.int IntKind.i64 now)],
 AB.cells 44
 [SV.d (Value.int IntKind.i64 L.room), SV.d (Value.int IntKind.u64 L.first),
 SV.d (Value.int IntKind.u64 L.next), SV.d (Value.int IntKind.i64 L.last),
 SV.sl 11 4 0 (rowPk k pg).length 0],
 AB.dead, AB.dead,
 AB.cells 63
 [SV.d (Value.int IntKind.i64 a), SV.d (Value.int IntKind.i64 b),
 SV.d (Value.int IntKind.i64 c), SV.d (Value.int IntKind.u64 d)],
 AB.row 80 15 (rowMi n (miF f)).tail.length (miG (rowMi n (miF f)).tail),
 AB.cells 80
 [SV.d (Value.int IntKind.i64 ((rowMi n (miF f)).getD 0 Mi.zero).id),
 SV.d (Value.int IntKind.i64 ((rowMi n (miF f)).getD 0 Mi.zero).frm),
 SV.d (Value.int IntKind.i64 ((rowMi n (miF f)).getD 0 Mi.zero).to),
 SV.d (Value.int IntKind.i64 ((rowMi n (miF f)).getD 0 Mi.zero).sent),
 SV.d (Value.int IntKind.i64 ((rowMi n (miF f)).getD 0 Mi.zero).acked),
 SV.d (Value.int IntKind.i64 ((rowMi n (miF f)).getD 0 Mi.zero).lost),
 SV.d (Value.int IntKind.i64 ((rowMi n (miF f)).getD 0 Mi.zero).packets),
 SV.d (Value.int IntKind.i64 ((rowMi n (miF f)).getD 0 Mi.zero).hits),
 SV.d (Value.int IntKind.i64 ((rowMi n (miF f)).getD 0 Mi.zero).drops),
 SV.d (Value.int IntKind.i64 ((rowMi n (miF f)).getD 0 Mi.zero).n),
 SV.d (Value.int IntKind.i64 ((rowMi n (miF f)).getD 0 Mi.zero).sumT),
 SV.d (Value.int IntKind.i64 ((rowMi n (miF f)).getD 0 Mi.zero).sumR),
 SV.d (Value.int IntKind.i64 ((rowMi n (miF f)).getD 0 Mi.zero).sumTT),
 SV.d (Value.int IntKind.i64 ((rowMi n (miF f)).getD 0 Mi.zero).sumTR),
 SV.d (Value.int IntKind.i64 ((rowMi n (miF f)).getD 0 Mi.zero).sumRR)],
 AB.row 36 4 (rowPk k pg).length (pkG (rowPk k pg)),
 AB.row 80 15 (rowMi n (miF f)).tail.length (miG (rowMi n (miF f)).tail)]))
 (T.ret
 (AV.e (EV.s (SV.c (Value.bool false))),
 [AB.cells 95
 [SV.ptr 1 0, SV.d (Value.int IntKind.i64 now), SV.sl 9 15 0 (rowMi n (miF f)).tail.length 0,
 SV.d (Value.int IntKind.i64 id), SV.d (Value.int IntKind.i64 tmo)],
 AB.cells 86
 [SV.d (Value.int IntKind.i64 L.room), SV.d (Value.int IntKind.u64 L.first),
 SV.d (Value.int IntKind.u64 L.next), SV.d (Value.int IntKind.i64 L.last), SV.mp 2],
 AB.pm L.es, AB.dead,
 AB.cells 72
 [SV.ptr 5 0, SV.sl 12 15 0 (rowMi n (miF f)).tail.length 0, SV.d (Value.int IntKind.i64 id),
 SV.d (Value.int IntKind.i64 tmo), SV.d (Value.int IntKind.i64 now)],
 AB.cells 44
 [SV.d (Value.int IntKind.i64 L.room), SV.d (Value.int IntKind.u64 L.first),
 SV.d (Value.int IntKind.u64 L.next), SV.d (Value.int IntKind.i64 L.last),
 SV.sl 11 4 0 (rowPk k pg).length 0],
 AB.dead, AB.dead,
 AB.cells 63
 [SV.d (Value.int IntKind.i64 a), SV.d (Value.int IntKind.i64 b),
 SV.d (Value.int IntKind.i64 c), SV.d (Value.int IntKind.u64 d)],
 AB.row 80 15 (rowMi n (miF f)).tail.length (miG (rowMi n (miF f)).tail),
 AB.cells 80
 [SV.d (Value.int IntKind.i64 ((rowMi n (miF f)).getD 0 Mi.zero).id),
 SV.d (Value.int IntKind.i64 ((rowMi n (miF f)).getD 0 Mi.zero).frm),
 SV.d (Value.int IntKind.i64 ((rowMi n (miF f)).getD 0 Mi.zero).to),
 SV.d (Value.int IntKind.i64 ((rowMi n (miF f)).getD 0 Mi.zero).sent),
 SV.d (Value.int IntKind.i64 ((rowMi n (miF f)).getD 0 Mi.zero).acked),
 SV.d (Value.int IntKind.i64 ((rowMi n (miF f)).getD 0 Mi.zero).lost),
 SV.d (Value.int IntKind.i64 ((rowMi n (miF f)).getD 0 Mi.zero).packets),
 SV.d (Value.int IntKind.i64 ((rowMi n (miF f)).getD 0 Mi.zero).hits),
 SV.d (Value.int IntKind.i64 ((rowMi n (miF f)).getD 0 Mi.zero).drops),
 SV.d (Value.int IntKind.i64 ((rowMi n (miF f)).getD 0 Mi.zero).n),
 SV.d (Value.int IntKind.i64 ((rowMi n (miF f)).getD 0 Mi.zero).sumT),
 SV.d (Value.int IntKind.i64 ((rowMi n (miF f)).getD 0 Mi.zero).sumR),
 SV.d (Value.int IntKind.i64 ((rowMi n (miF f)).getD 0 Mi.zero).sumTT),
 SV.d (Value.int IntKind.i64 ((rowMi n (miF f)).getD 0 Mi.zero).sumTR),
 SV.d (Value.int IntKind.i64 ((rowMi n (miF f)).getD 0 Mi.zero).sumRR)],
 AB.row 36 4 (rowPk k pg).length (pkG (rowPk k pg)),
 AB.row 80 15 (rowMi n (miF f)).tail.length (miG (rowMi n (miF f)).tail)])))
 (T.ite
 (if false = true then
 !(((rowMi n (miF f)).getD 0 Mi.zero).id == Mi.zero.id &&
 (((rowMi n (miF f)).getD 0 Mi.zero).frm == Mi.zero.frm &&
 (((rowMi n (miF f)).getD 0 Mi.zero).to == Mi.zero.to &&
 (((rowMi n (miF f)).getD 0 Mi.zero).sent == Mi.zero.sent &&
 (((rowMi n (miF f)).getD 0 Mi.zero).acked == Mi.zero.acked &&
 (((rowMi n (miF f)).getD 0 Mi.zero).lost == Mi.zero.lost &&
 (((rowMi n (miF f)).getD 0 Mi.zero).packets == Mi.zero.packets &&
 (((rowMi n (miF f)).getD 0 Mi.zero).hits == Mi.zero.hits &&
 (((rowMi n (miF f)).getD 0 Mi.zero).drops == Mi.zero.drops &&
 (((rowMi n (miF f)).getD 0 Mi.zero).n == Mi.zero.n &&
 (((rowMi n (miF f)).getD 0 Mi.zero).sumT == Mi.zero.sumT &&
 (((rowMi n (miF f)).getD 0 Mi.zero).sumR == Mi.zero.sumR &&
 (((rowMi n (miF f)).getD 0 Mi.zero).sumTT == Mi.zero.sumTT &&
 (((rowMi n (miF f)).getD 0 Mi.zero).sumTR == Mi.zero.sumTR &&
 (((rowMi n (miF f)).getD 0 Mi.zero).sumRR == Mi.zero.sumRR &&
 true)))))))))))))))
 else
 ((rowMi n (miF f)).getD 0 Mi.zero).id == Mi.zero.id &&
 (((rowMi n (miF f)).getD 0 Mi.zero).frm == Mi.zero.frm &&
 (((rowMi n (miF f)).getD 0 Mi.zero).to == Mi.zero.to &&
 (((rowMi n (miF f)).getD 0 Mi.zero).sent == Mi.zero.sent &&
 (((rowMi n (miF f)).getD 0 Mi.zero).acked == Mi.zero.acked &&
 (((rowMi n (miF f)).getD 0 Mi.zero).lost == Mi.zero.lost &&
 (((rowMi n (miF f)).getD 0 Mi.zero).packets == Mi.zero.packets &&
 (((rowMi n (miF f)).getD 0 Mi.zero).hits == Mi.zero.hits &&
 (((rowMi n (miF f)).getD 0 Mi.zero).drops == Mi.zero.drops &&
 (((rowMi n (miF f)).getD 0 Mi.zero).n == Mi.zero.n &&
 (((rowMi n (miF f)).getD 0 Mi.zero).sumT == Mi.zero.sumT &&
 (((rowMi n (miF f)).getD 0 Mi.zero).sumR == Mi.zero.sumR &&
 (((rowMi n (miF f)).getD 0 Mi.zero).sumTT == Mi.zero.sumTT &&
 (((rowMi n (miF f)).getD 0 Mi.zero).sumTR == Mi.zero.sumTR &&
 (((rowMi n (miF f)).getD 0 Mi.zero).sumRR == Mi.zero.sumRR &&
 true)))))))))))))))
 (T.ret
 (AV.e (EV.s (SV.c (Value.bool false))),
 [AB.cells 95
 [SV.ptr 1 0, SV.d (Value.int IntKind.i64 now), SV.sl 9 15 0 (rowMi n (miF f)).tail.length 0,
 SV.d (Value.int IntKind.i64 id), SV.d (Value.int IntKind.i64 tmo)],
 AB.cells 86
 [SV.d (Value.int IntKind.i64 L.room), SV.d (Value.int IntKind.u64 L.first),
 SV.d (Value.int IntKind.u64 L.next), SV.d (Value.int IntKind.i64 L.last), SV.mp 2],
 AB.pm L.es, AB.dead,
 AB.cells 72
 [SV.ptr 5 0, SV.sl 12 15 0 (rowMi n (miF f)).length 0, SV.d (Value.int IntKind.i64 id),
 SV.d (Value.int IntKind.i64 tmo), SV.d (Value.int IntKind.i64 now)],
 AB.cells 44
 [SV.d (Value.int IntKind.i64 L.room), SV.d (Value.int IntKind.u64 L.first),
 SV.d (Value.int IntKind.u64 L.next), SV.d (Value.int IntKind.i64 L.last),
 SV.sl 11 4 0 (rowPk k pg).length 0],
 AB.dead, AB.dead,
 AB.cells 63
 [SV.d (Value.int IntKind.i64 a), SV.d (Value.int IntKind.i64 b),
 SV.d (Value.int IntKind.i64 c), SV.d (Value.int IntKind.u64 d)],
 AB.row 80 15 (rowMi n (miF f)).tail.length (miG (rowMi n (miF f)).tail),
 AB.cells 80
 [SV.d (Value.int IntKind.i64 ((rowMi n (miF f)).getD 0 Mi.zero).id),
 SV.d (Value.int IntKind.i64 ((rowMi n (miF f)).getD 0 Mi.zero).frm),
 SV.d (Value.int IntKind.i64 ((rowMi n (miF f)).getD 0 Mi.zero).to),
 SV.d (Value.int IntKind.i64 ((rowMi n (miF f)).getD 0 Mi.zero).sent),
 SV.d (Value.int IntKind.i64 ((rowMi n (miF f)).getD 0 Mi.zero).acked),
 SV.d (Value.int IntKind.i64 ((rowMi n (miF f)).getD 0 Mi.zero).lost),
 SV.d (Value.int IntKind.i64 ((rowMi n (miF f)).getD 0 Mi.zero).packets),
 SV.d (Value.int IntKind.i64 ((rowMi n (miF f)).getD 0 Mi.zero).hits),
 SV.d (Value.int IntKind.i64 ((rowMi n (miF f)).getD 0 Mi.zero).drops),
 SV.d (Value.int IntKind.i64 ((rowMi n (miF f)).getD 0 Mi.zero).n),
 SV.d (Value.int IntKind.i64 ((rowMi n (miF f)).getD 0 Mi.zero).sumT),
 SV.d (Value.int IntKind.i64 ((rowMi n (miF f)).getD 0 Mi.zero).sumR),
 SV.d (Value.int IntKind.i64 ((rowMi n (miF f)).getD 0 Mi.zero).sumTT),
 SV.d (Value.int IntKind.i64 ((rowMi n (miF f)).getD 0 Mi.zero).sumTR),
 SV.d (Value.int IntKind.i64 ((rowMi n (miF f)).getD 0 Mi.zero).sumRR)],
 AB.row 36 4 (rowPk k pg).length (pkG (rowPk k pg)),
 AB.row 80 15 (rowMi n (miF f)).length (miG (rowMi n (miF f)))]))
 (T.ret
 (AV.e (EV.s (SV.c (Value.bool false))),
 [AB.cells 95
 [SV.ptr 1 0, SV.d (Value.int IntKind.i64 now), SV.sl 9 15 0 (rowMi n (miF f)).tail.length 0,
 SV.d (Value.int IntKind.i64 id), SV.d (Value.int IntKind.i64 tmo)],
 AB.cells 86
 [SV.d (Value.int IntKind.i64 L.room), SV.d (Value.int IntKind.u64 L.first),
 SV.d (Value.int IntKind.u64 L.next), SV.d (Value.int IntKind.i64 L.last), SV.mp 2],
 AB.pm L.es, AB.dead,
 AB.cells 72
 [SV.ptr 5 0, SV.sl 12 15 0 (rowMi n (miF f)).length 0, SV.d (Value.int IntKind.i64 id),
 SV.d (Value.int IntKind.i64 tmo), SV.d (Value.int IntKind.i64 now)],
 AB.cells 44
 [SV.d (Value.int IntKind.i64 L.room), SV.d (Value.int IntKind.u64 L.first),
 SV.d (Value.int IntKind.u64 L.next), SV.d (Value.int IntKind.i64 L.last),
 SV.sl 11 4 0 (rowPk k pg).length 0],
 AB.dead, AB.dead,
 AB.cells 63
 [SV.d (Value.int IntKind.i64 a), SV.d (Value.int IntKind.i64 b),
 SV.d (Value.int IntKind.i64 c), SV.d (Value.int IntKind.u64 d)],
 AB.row 80 15 (rowMi n (miF f)).tail.length (miG (rowMi n (miF f)).tail),
 AB.cells 80
 [SV.d (Value.int IntKind.i64 ((rowMi n (miF f)).getD 0 Mi.zero).id),
 SV.d (Value.int IntKind.i64 ((rowMi n (miF f)).getD 0 Mi.zero).frm),
 SV.d (Value.int IntKind.i64 ((rowMi n (miF f)).getD 0 Mi.zero).to),
 SV.d (Value.int IntKind.i64 ((rowMi n (miF f)).getD 0 Mi.zero).sent),
 SV.d (Value.int IntKind.i64 ((rowMi n (miF f)).getD 0 Mi.zero).acked),
 SV.d (Value.int IntKind.i64 ((rowMi n (miF f)).getD 0 Mi.zero).lost),
 SV.d (Value.int IntKind.i64 ((rowMi n (miF f)).getD 0 Mi.zero).packets),
 SV.d (Value.int IntKind.i64 ((rowMi n (miF f)).getD 0 Mi.zero).hits),
 SV.d (Value.int IntKind.i64 ((rowMi n (miF f)).getD 0 Mi.zero).drops),
 SV.d (Value.int IntKind.i64 ((rowMi n (miF f)).getD 0 Mi.zero).n),
 SV.d (Value.int IntKind.i64 ((rowMi n (miF f)).getD 0 Mi.zero).sumT),
 SV.d (Value.int IntKind.i64 ((rowMi n (miF f)).getD 0 Mi.zero).sumR),
 SV.d (Value.int IntKind.i64 ((rowMi n (miF f)).getD 0 Mi.zero).sumTT),
 SV.d (Value.int IntKind.i64 ((rowMi n (miF f)).getD 0 Mi.zero).sumTR),
 SV.d (Value.int IntKind.i64 ((rowMi n (miF f)).getD 0 Mi.zero).sumRR)],
 AB.row 36 4 (rowPk k pg).length (pkG (rowPk k pg)),
 AB.row 80 15 (rowMi n (miF f)).length (miG (rowMi n (miF f)))])))))
 (T.need
 (((n = n ∧ MiRow n (miF f)) ∧ k = k ∧ PkRow k pg) ∧
 { L := { room := L.room, first := L.first, next := L.next, last := L.last, es := rowPk k pg : LSt }, now := now, ms := rowMi n (miF f), id := id, tmo := tmo : BSt }.Ok)
 (T.ite
 (decide
 (tkP
 { L := { room := L.room, first := L.first, next := L.next, last := L.last, es := rowPk k pg : LSt }, now := now, ms := rowMi n (miF f), id := id, tmo := tmo : BSt }))
 (T.ite
 (if false = true then
 !(Mi.zero.id == ((rowMi n (miF f)).getD 0 Mi.zero).id &&
 (Mi.zero.frm == ((rowMi n (miF f)).getD 0 Mi.zero).frm &&
 (Mi.zero.to == ((rowMi n (miF f)).getD 0 Mi.zero).to &&
 (Mi.zero.sent == ((rowMi n (miF f)).getD 0 Mi.zero).sent &&
 (Mi.zero.acked == ((rowMi n (miF f)).getD 0 Mi.zero).acked &&
 (Mi.zero.lost == ((rowMi n (miF f)).getD 0 Mi.zero).lost &&
 (Mi.zero.packets == ((rowMi n (miF f)).getD 0 Mi.zero).packets &&
 (Mi.zero.hits == ((rowMi n (miF f)).getD 0 Mi.zero).hits &&
 (Mi.zero.drops == ((rowMi n (miF f)).getD 0 Mi.zero).drops &&
 (Mi.zero.n == ((rowMi n (miF f)).getD 0 Mi.zero).n &&
 (Mi.zero.sumT == ((rowMi n (miF f)).getD 0 Mi.zero).sumT &&
 (Mi.zero.sumR == ((rowMi n (miF f)).getD 0 Mi.zero).sumR &&
 (Mi.zero.sumTT == ((rowMi n (miF f)).getD 0 Mi.zero).sumTT &&
 (Mi.zero.sumTR == ((rowMi n (miF f)).getD 0 Mi.zero).sumTR &&
 (Mi.zero.sumRR == ((rowMi n (miF f)).getD 0 Mi.zero).sumRR &&
 true)))))))))))))))
 else
 Mi.zero.id == ((rowMi n (miF f)).getD 0 Mi.zero).id &&
 (Mi.zero.frm == ((rowMi n (miF f)).getD 0 Mi.zero).frm &&
 (Mi.zero.to == ((rowMi n (miF f)).getD 0 Mi.zero).to &&
 (Mi.zero.sent == ((rowMi n (miF f)).getD 0 Mi.zero).sent &&
 (Mi.zero.acked == ((rowMi n (miF f)).getD 0 Mi.zero).acked &&
 (Mi.zero.lost == ((rowMi n (miF f)).getD 0 Mi.zero).lost &&
 (Mi.zero.packets == ((rowMi n (miF f)).getD 0 Mi.zero).packets &&
 (Mi.zero.hits == ((rowMi n (miF f)).getD 0 Mi.zero).hits &&
 (Mi.zero.drops == ((rowMi n (miF f)).getD 0 Mi.zero).drops &&
 (Mi.zero.n == ((rowMi n (miF f)).getD 0 Mi.zero).n &&
 (Mi.zero.sumT == ((rowMi n (miF f)).getD 0 Mi.zero).sumT &&
 (Mi.zero.sumR == ((rowMi n (miF f)).getD 0 Mi.zero).sumR &&
 (Mi.zero.sumTT == ((rowMi n (miF f)).getD 0 Mi.zero).sumTT &&
 (Mi.zero.sumTR == ((rowMi n (miF f)).getD 0 Mi.zero).sumTR &&
 (Mi.zero.sumRR == ((rowMi n (miF f)).getD 0 Mi.zero).sumRR &&
 true)))))))))))))))
 (T.ret
 (AV.e (EV.s (SV.c (Value.bool false))),
 [AB.cells 95
 [SV.ptr 1 0, SV.d (Value.int IntKind.i64 now), SV.sl 9 15 0 (rowMi n (miF f)).length 0,
 SV.d (Value.int IntKind.i64 id), SV.d (Value.int IntKind.i64 tmo)],
 AB.cells 86
 [SV.d (Value.int IntKind.i64 L.room), SV.d (Value.int IntKind.u64 L.first),
 SV.d (Value.int IntKind.u64 L.next), SV.d (Value.int IntKind.i64 L.last), SV.mp 2],
 AB.pm L.es, AB.dead,
 AB.cells 72
 [SV.ptr 5 0, SV.sl 12 15 0 (rowMi n (miF f)).tail.length 0, SV.d (Value.int IntKind.i64 id),
 SV.d (Value.int IntKind.i64 tmo), SV.d (Value.int IntKind.i64 now)],
 AB.cells 44
 [SV.d (Value.int IntKind.i64 L.room), SV.d (Value.int IntKind.u64 L.first),
 SV.d (Value.int IntKind.u64 L.next), SV.d (Value.int IntKind.i64 L.last),
 SV.sl 11 4 0 (rowPk k pg).length 0],
 AB.dead, AB.dead,
 AB.cells 63
 [SV.d (Value.int IntKind.i64 a), SV.d (Value.int IntKind.i64 b),
 SV.d (Value.int IntKind.i64 c), SV.d (Value.int IntKind.u64 d)],
 AB.row 80 15 (rowMi n (miF f)).length (miG (rowMi n (miF f))),
 AB.cells 80
 [SV.d (Value.int IntKind.i64 0), SV.d (Value.int IntKind.i64 0),
 SV.d (Value.int IntKind.i64 0), SV.d (Value.int IntKind.i64 0),
 SV.d (Value.int IntKind.i64 0), SV.d (Value.int IntKind.i64 0),
 SV.d (Value.int IntKind.i64 0), SV.d (Value.int IntKind.i64 0),
 SV.d (Value.int IntKind.i64 0), SV.d (Value.int IntKind.i64 0),
 SV.d (Value.int IntKind.i64 0), SV.d (Value.int IntKind.i64 0),
 SV.d (Value.int IntKind.i64 0), SV.d (Value.int IntKind.i64 0),
 SV.d (Value.int IntKind.i64 0)],
 AB.row 36 4 (rowPk k pg).length (pkG (rowPk k pg)),
 AB.row 80 15 (rowMi n (miF f)).tail.length (miG (rowMi n (miF f)).tail)]))
 (T.ret
 (AV.e (EV.s (SV.c (Value.bool false))),
 [AB.cells 95
 [SV.ptr 1 0, SV.d (Value.int IntKind.i64 now), SV.sl 9 15 0 (rowMi n (miF f)).length 0,
 SV.d (Value.int IntKind.i64 id), SV.d (Value.int IntKind.i64 tmo)],
 AB.cells 86
 [SV.d (Value.int IntKind.i64 L.room), SV.d (Value.int IntKind.u64 L.first),
 SV.d (Value.int IntKind.u64 L.next), SV.d (Value.int IntKind.i64 L.last), SV.mp 2],
 AB.pm L.es, AB.dead,
 AB.cells 72
 [SV.ptr 5 0, SV.sl 12 15 0 (rowMi n (miF f)).tail.length 0, SV.d (Value.int IntKind.i64 id),
 SV.d (Value.int IntKind.i64 tmo), SV.d (Value.int IntKind.i64 now)],
 AB.cells 44
 [SV.d (Value.int IntKind.i64 L.room), SV.d (Value.int IntKind.u64 L.first),
 SV.d (Value.int IntKind.u64 L.next), SV.d (Value.int IntKind.i64 L.last),
 SV.sl 11 4 0 (rowPk k pg).length 0],
 AB.dead, AB.dead,
 AB.cells 63
 [SV.d (Value.int IntKind.i64 a), SV.d (Value.int IntKind.i64 b),
 SV.d (Value.int IntKind.i64 c), SV.d (Value.int IntKind.u64 d)],
 AB.row 80 15 (rowMi n (miF f)).length (miG (rowMi n (miF f))),
 AB.cells 80
 [SV.d (Value.int IntKind.i64 0), SV.d (Value.int IntKind.i64 0),
 SV.d (Value.int IntKind.i64 0), SV.d (Value.int IntKind.i64 0),
 SV.d (Value.int IntKind.i64 0), SV.d (Value.int IntKind.i64 0),
 SV.d (Value.int IntKind.i64 0), SV.d (Value.int IntKind.i64 0),
 SV.d (Value.int IntKind.i64 0), SV.d (Value.int IntKind.i64 0),
 SV.d (Value.int IntKind.i64 0), SV.d (Value.int IntKind.i64 0),
 SV.d (Value.int IntKind.i64 0), SV.d (Value.int IntKind.i64 0),
 SV.d (Value.int IntKind.i64 0)],
 AB.row 36 4 (rowPk k pg).length (pkG (rowPk k pg)),
 AB.row 80 15 (rowMi n (miF f)).tail.length (miG (rowMi n (miF f)).tail)])))
 (T.ite true
 (T.ret
 (AV.e (EV.s (SV.c (Value.bool true))),
 [AB.cells 95
 [SV.ptr 1 0, SV.d (Value.int IntKind.i64 now), SV.sl 9 15 0 (rowMi n (miF f)).length 0,
 SV.d (Value.int IntKind.i64 id), SV.d (Value.int IntKind.i64 tmo)],
 AB.cells 86
 [SV.d (Value.int IntKind.i64 L.room), SV.d (Value.int IntKind.u64 L.first),
 SV.d (Value.int IntKind.u64 L.next), SV.d (Value.int IntKind.i64 L.last), SV.mp 2],
 AB.pm L.es, AB.dead,
 AB.cells 72
 [SV.ptr 5 0, SV.sl 12 15 0 (rowMi n (miF f)).length 0, SV.d (Value.int IntKind.i64 id),
 SV.d (Value.int IntKind.i64 tmo), SV.d (Value.int IntKind.i64 now)],
 AB.cells 44
 [SV.d (Value.int IntKind.i64 L.room), SV.d (Value.int IntKind.u64 L.first),
 SV.d (Value.int IntKind.u64 L.next), SV.d (Value.int IntKind.i64 L.last),
 SV.sl 11 4 0 (rowPk k pg).length 0],
 AB.dead, AB.dead,
 AB.cells 63
 [SV.d (Value.int IntKind.i64 a), SV.d (Value.int IntKind.i64 b),
 SV.d (Value.int IntKind.i64 c), SV.d (Value.int IntKind.u64 d)],
 AB.row 80 15 (rowMi n (miF f)).length (miG (rowMi n (miF f))),
 AB.cells 80
 [SV.d (Value.int IntKind.i64 0), SV.d (Value.int IntKind.i64 0),
 SV.d (Value.int IntKind.i64 0), SV.d (Value.int IntKind.i64 0),
 SV.d (Value.int IntKind.i64 0), SV.d (Value.int IntKind.i64 0),
 SV.d (Value.int IntKind.i64 0), SV.d (Value.int IntKind.i64 0),
 SV.d (Value.int IntKind.i64 0), SV.d (Value.int IntKind.i64 0),
 SV.d (Value.int IntKind.i64 0), SV.d (Value.int IntKind.i64 0),
 SV.d (Value.int IntKind.i64 0), SV.d (Value.int IntKind.i64 0),
 SV.d (Value.int IntKind.i64 0)],
 AB.row 36 4 (rowPk k pg).length (pkG (rowPk k pg)),
 AB.row 80 15 (rowMi n (miF f)).length (miG (rowMi n (miF f)))]))
 (T.ret
 (AV.e (EV.s (SV.c (Value.bool false))),
 [AB.cells 95
 [SV.ptr 1 0, SV.d (Value.int IntKind.i64 now), SV.sl 9 15 0 (rowMi n (miF f)).length 0,
 SV.d (Value.int IntKind.i64 id), SV.d (Value.int IntKind.i64 tmo)],
 AB.cells 86
 [SV.d (Value.int IntKind.i64 L.room), SV.d (Value.int IntKind.u64 L.first),
 SV.d (Value.int IntKind.u64 L.next), SV.d (Value.int IntKind.i64 L.last), SV.mp 2],
 AB.pm L.es, AB.dead,
 AB.cells 72
 [SV.ptr 5 0, SV.sl 12 15 0 (rowMi n (miF f)).length 0, SV.d (Value.int IntKind.i64 id),
 SV.d (Value.int IntKind.i64 tmo), SV.d (Value.int IntKind.i64 now)],
 AB.cells 44
 [SV.d (Value.int IntKind.i64 L.room), SV.d (Value.int IntKind.u64 L.first),
 SV.d (Value.int IntKind.u64 L.next), SV.d (Value.int IntKind.i64 L.last),
 SV.sl 11 4 0 (rowPk k pg).length 0],
 AB.dead, AB.dead,
 AB.cells 63
 [SV.d (Value.int IntKind.i64 a), SV.d (Value.int IntKind.i64 b),
 SV.d (Value.int IntKind.i64 c), SV.d (Value.int IntKind.u64 d)],
 AB.row 80 15 (rowMi n (miF f)).length (miG (rowMi n (miF f))),
 AB.cells 80
 [SV.d (Value.int IntKind.i64 0), SV.d (Value.int IntKind.i64 0),
 SV.d (Value.int IntKind.i64 0), SV.d (Value.int IntKind.i64 0),
 SV.d (Value.int IntKind.i64 0), SV.d (Value.int IntKind.i64 0),
 SV.d (Value.int IntKind.i64 0), SV.d (Value.int IntKind.i64 0),
 SV.d (Value.int IntKind.i64 0), SV.d (Value.int IntKind.i64 0),
 SV.d (Value.int IntKind.i64 0), SV.d (Value.int IntKind.i64 0),
 SV.d (Value.int IntKind.i64 0), SV.d (Value.int IntKind.i64 0),
 SV.d (Value.int IntKind.i64 0)],
 AB.row 36 4 (rowPk k pg).length (pkG (rowPk k pg)),
 AB.row 80 15 (rowMi n (miF f)).length (miG (rowMi n (miF f)))]))))))))))) := by kernel_rfl


end Go.Proofs.Ythckkoledhjmeaa.Ev
