/-
  The abstract evaluator's trees: the statement BooksCloses.
-/
import Derived.Test.YthckkoledhjmeaaCD
namespace Go.Proofs.Ythckkoledhjmeaa.Ev
open Go

def e9 : List (Nat × Ent) := [(9, .body oN 0), (24, .body oN 0), (25, .summ s25), (23, .summ s23), (32, .summ s32), (33, .summ s33), (34, .summ s34), (35, .summ s35), (36, .summ s36), (37, .summ s37), (28, .summ s28), (31, .body oN 0), (21, .body o21 0), (38, .summ sDone)]

noncomputable def t9 (room first tmo : Int) (ns z : Nat) (f : Nat → Sq) : T (AV × Heap) := callT Try.prog (entL e9) 4 9 [.d (.int .i64 room), .d (.int .u64 first), .d (.int .i64 tmo), .e (.s (.sl 0 4 0 ns z))] [.ro 4 ns (sqF f)] fun r H' => .ret (r, H')

theorem t9_eq (room first tmo : Int) (ns z : Nat) (f : Nat → Sq) : t9 room first tmo ns z f =
    T.ite (nbE room tmo != 0) (T.ret (AV.e (EV.s (SV.c (Value.bool true))), [AB.ro 4 ns (sqF f)]))
 (T.ite (decide ((↑ns : Int) ≤ 150))
 (T.code 1 (loopAt Try.prog 9 0).loop
 { fr := [AV.e (EV.s (SV.d (Value.int IntKind.i64 room))), AV.e (EV.s (SV.d (Value.int IntKind.u64 first))), AV.e (EV.s (SV.d (Value.int IntKind.i64 tmo))), AV.e (EV.s (SV.sl 0 4 0 ns z)), AV.tup [], AV.tup [], AV.tup [], AV.tup [], AV.e (EV.s (SV.c (Value.bool false))), AV.e (EV.s (SV.ptr 1 0)), AV.e (EV.s (SV.c (Value.int IntKind.i64 0))), AV.e (EV.s (SV.c (Value.int IntKind.i64 0))), AV.e (EV.s (SV.c (Value.int IntKind.i64 0))), AV.tup [], AV.tup [], AV.tup [], AV.tup [], AV.tup [], AV.tup [], AV.tup [], AV.tup [], AV.tup [], AV.tup [], AV.tup [], AV.tup [], AV.tup [], AV.tup [], AV.tup [], AV.tup [], AV.tup [], AV.tup [], AV.tup [], AV.tup [EV.s (SV.ptr 1 0), EV.s (SV.c (Value.int IntKind.i64 0))], AV.e (EV.s (SV.d (Value.int IntKind.i64 room))), AV.e (EV.s (SV.d (Value.int IntKind.u64 first))), AV.e (EV.s (SV.d (Value.int IntKind.i64 tmo))), AV.tup [EV.s (SV.ptr 1 0), EV.s (SV.c (Value.int IntKind.i64 0))], AV.e (EV.s (SV.ptr 1 0)), AV.e (EV.s (SV.c (Value.int IntKind.i64 0))), AV.e (EV.s (SV.ptr 1 0)), AV.e (EV.s (SV.c (Value.bool false))), AV.e (EV.s (SV.c (Value.bool false))), AV.e (EV.s (SV.sl 0 4 0 ns z)), AV.e (EV.s (SV.c (Value.bool true))), AV.e (EV.s (SV.c (Value.bool false))), AV.e (EV.s (SV.c (Value.bool false))), AV.e (EV.s (SV.c (Value.bool false))), AV.e (EV.s (SV.c (Value.int IntKind.i64 0))), AV.e (EV.s (SV.c (Value.bool false))), AV.e (EV.s (SV.c (Value.bool false))), AV.tup [], AV.tup [], AV.tup [], AV.tup [], AV.tup [], AV.tup [], AV.tup [], AV.tup [], AV.tup [], AV.tup [], AV.tup [], AV.tup [], AV.tup [], AV.tup [], AV.tup [], AV.tup [], AV.tup [], AV.tup [], AV.tup [], AV.tup [], AV.tup [], AV.tup [], AV.tup [], AV.tup [], AV.tup [], AV.tup [], AV.tup [], AV.tup [], AV.tup [], AV.tup [], AV.tup [], AV.tup [], AV.tup [], AV.tup [], AV.tup [], AV.tup [], AV.tup [], AV.tup [], AV.tup [], AV.tup [], AV.tup [], AV.tup [], AV.tup [], AV.tup [], AV.tup [], AV.tup [], AV.tup [], AV.tup [], AV.tup [], AV.tup [], AV.tup [], AV.tup [], AV.tup [], AV.tup [], AV.tup [], AV.tup [], AV.tup [], AV.tup [], AV.tup [], AV.tup [], AV.tup [], AV.tup [], AV.tup [], AV.tup [], AV.tup [], AV.tup [], AV.tup [], AV.tup [], AV.tup [], AV.tup [], AV.tup [], AV.tup [], AV.tup [], AV.tup [], AV.tup [], AV.tup [], AV.tup [], AV.tup [], AV.tup [], AV.tup [], AV.tup [], AV.tup [], AV.tup [], AV.tup [], AV.tup [], AV.tup [], AV.tup [], AV.tup [], AV.tup [], AV.tup [], AV.tup [], AV.tup [], AV.tup [], AV.tup [], AV.tup [], AV.tup [], AV.tup [], AV.tup [], AV.tup [], AV.tup [], AV.tup [], AV.tup [], AV.tup [], AV.tup [], AV.tup [], AV.tup [], AV.tup [], AV.tup [], AV.tup [], AV.tup [], AV.tup [], AV.tup [], AV.tup [], AV.tup [], AV.tup [], AV.tup [], AV.tup [], AV.tup [], AV.tup [], AV.tup [], AV.tup [], AV.tup [], AV.tup [], AV.tup [], AV.tup [], AV.tup [], AV.tup [], AV.tup [], AV.tup [], AV.tup [], AV.tup [], AV.tup [], AV.tup [], AV.tup [], AV.tup [], AV.tup [], AV.tup [], AV.tup [], AV.tup [], AV.tup [], AV.tup [], AV.tup [], AV.tup [], AV.tup [], AV.tup [], AV.tup [], AV.tup [], AV.tup [], AV.tup [], AV.tup [], AV.tup [], AV.tup [], AV.tup [], AV.tup [], AV.tup [], AV.tup [], AV.tup []], H := [AB.ro 4 ns (sqF f), AB.cells 95 [SV.ptr 2 0, SV.d (Value.int IntKind.i64 0), SV.sl 4 15 0 0 0, SV.d (Value.int IntKind.i64 0), SV.d (Value.int IntKind.i64 tmo)], AB.cells 86 [SV.d (Value.int IntKind.i64 (newL room first).room), SV.d (Value.int IntKind.u64 (newL room first).first), SV.d (Value.int IntKind.u64 (newL room first).next), SV.d (Value.int IntKind.i64 0), SV.mp 3], AB.pm [], AB.row 80 15 0 (miG [])] : St }
 (T.go [false, true] (t9 room first tmo ns z f)).kont)
 (T.ret (AV.e (EV.s (SV.c (Value.bool true))), [AB.ro 4 ns (sqF f)]))) := by kernel_rfl


def H9 (ns : Nat) (f : Nat → Sq) (L : LSt) (n : Nat) (g : Nat → List Value) (now id tmo : Int) : Heap :=
  [.ro 4 ns (sqF f), .cells 95 [.ptr 2 0, .d (.int .i64 now), .sl 4 15 0 n 0, .d (.int .i64 id), .d (.int .i64 tmo)], .cells 86 (lc L 3), .pm L.es, .row 80 15 n g]

def x9 (room tmo : Int) (ns z : Nat) (now i : Int) : List AV := [.d (.int .i64 room), .d (.int .i64 tmo), .e (.s (.sl 0 4 0 ns z)), .e (.s (.ptr 1 0)), .d (.int .i64 now), .d (.int .i64 i)]

noncomputable def t9b (room : Int) (ns z : Nat) (f : Nat → Sq) (L : LSt) (n : Nat) (g : Nat → Mi) (now id tmo : Int) (i : Int) (vs : Nat → Value) : T (Exit × List AV × Heap) := bodyT Try.prog e9 3 oN 1 (loopAt Try.prog 9 0) [0, 2, 3, 9, 11, 12] 207 (x9 room tmo ns z now i) (H9 ns f L n (miF g) now id tmo) vs

theorem t9b_eq (room : Int) (ns z : Nat) (f : Nat → Sq) (L : LSt) (n : Nat) (g : Nat → Mi) (now id tmo : Int) (i : Int) (vs : Nat → Value) : t9b room ns z f L n g now id tmo i vs =
    T.ite (decide (i < (↑ns : Int)))
 (T.need (0 ≤ i ∧ i < (↑ns : Int))
 (T.need (0 + i.toNat < ns)
 (T.ite ((f (0 + i.toNat)).kind == 0)
 (T.need
 ((n = n ∧ MiRow n (miF g)) ∧
 { L := L, now := now, ms := rowMi n (miF g), id := id, tmo := tmo : BSt }.Ok ∧
 fewIds { L := L, now := now, ms := rowMi n (miF g), id := id, tmo := tmo : BSt })
 (T.ite
 (begE { L := L, now := now, ms := rowMi n (miF g), id := id, tmo := tmo : BSt } (f (0 + i.toNat)).att == 0)
 (T.ret
 (Exit.normal,
 [AV.e (EV.s (SV.d (Value.int IntKind.i64 room))), AV.e (EV.s (SV.d (Value.int IntKind.i64 tmo))),
 AV.e (EV.s (SV.sl 0 4 0 ns z)), AV.e (EV.s (SV.ptr 1 0)),
 AV.e (EV.s (SV.d (Value.int IntKind.i64 (f (0 + i.toNat)).att))),
 AV.e (EV.s (SV.d (Value.int IntKind.i64 (IntKind.i64.wrap (i + 1)))))],
 [AB.ro 4 ns (sqF f),
 AB.cells 95
 [SV.ptr 2 0,
 SV.d
 (Value.int IntKind.i64
 (begB { L := L, now := now, ms := rowMi n (miF g), id := id, tmo := tmo : BSt }
 (f (0 + i.toNat)).att).now),
 SV.sl 6 15 0
 (begB { L := L, now := now, ms := rowMi n (miF g), id := id, tmo := tmo : BSt }
 (f (0 + i.toNat)).att).ms.length
 0,
 SV.d
 (Value.int IntKind.i64
 (begB { L := L, now := now, ms := rowMi n (miF g), id := id, tmo := tmo : BSt }
 (f (0 + i.toNat)).att).id),
 SV.d
 (Value.int IntKind.i64
 (begB { L := L, now := now, ms := rowMi n (miF g), id := id, tmo := tmo : BSt }
 (f (0 + i.toNat)).att).tmo)],
 AB.cells 86
 [SV.d
 (Value.int IntKind.i64
 (begB { L := L, now := now, ms := rowMi n (miF g), id := id, tmo := tmo : BSt }
 (f (0 + i.toNat)).att).L.room),
 SV.d
 (Value.int IntKind.u64
 (begB { L := L, now := now, ms := rowMi n (miF g), id := id, tmo := tmo : BSt }
 (f (0 + i.toNat)).att).L.first),
 SV.d
 (Value.int IntKind.u64
 (begB { L := L, now := now, ms := rowMi n (miF g), id := id, tmo := tmo : BSt }
 (f (0 + i.toNat)).att).L.next),
 SV.d
 (Value.int IntKind.i64
 (begB { L := L, now := now, ms := rowMi n (miF g), id := id, tmo := tmo : BSt }
 (f (0 + i.toNat)).att).L.last),
 SV.mp 3],
 AB.pm
 (begB { L := L, now := now, ms := rowMi n (miF g), id := id, tmo := tmo : BSt }
 (f (0 + i.toNat)).att).L.es,
 AB.dead,
 AB.cells 63
 [SV.d (Value.int IntKind.i64 (f (0 + i.toNat)).kind),
 SV.d (Value.int IntKind.i64 (f (0 + i.toNat)).size),
 SV.d (Value.int IntKind.i64 (f (0 + i.toNat)).att),
 SV.d (Value.int IntKind.u64 (f (0 + i.toNat)).seq)],
 AB.row 80 15
 (begB { L := L, now := now, ms := rowMi n (miF g), id := id, tmo := tmo : BSt }
 (f (0 + i.toNat)).att).ms.length
 (miG
 (begB { L := L, now := now, ms := rowMi n (miF g), id := id, tmo := tmo : BSt }
 (f (0 + i.toNat)).att).ms)]))
 (T.ret
 (Exit.normal,
 [AV.e (EV.s (SV.d (Value.int IntKind.i64 room))), AV.e (EV.s (SV.d (Value.int IntKind.i64 tmo))),
 AV.e (EV.s (SV.sl 0 4 0 ns z)), AV.e (EV.s (SV.ptr 1 0)),
 AV.e (EV.s (SV.d (Value.int IntKind.i64 now))),
 AV.e (EV.s (SV.d (Value.int IntKind.i64 (IntKind.i64.wrap (i + 1)))))],
 [AB.ro 4 ns (sqF f),
 AB.cells 95
 [SV.ptr 2 0,
 SV.d
 (Value.int IntKind.i64
 (begB { L := L, now := now, ms := rowMi n (miF g), id := id, tmo := tmo : BSt }
 (f (0 + i.toNat)).att).now),
 SV.sl 6 15 0
 (begB { L := L, now := now, ms := rowMi n (miF g), id := id, tmo := tmo : BSt }
 (f (0 + i.toNat)).att).ms.length
 0,
 SV.d
 (Value.int IntKind.i64
 (begB { L := L, now := now, ms := rowMi n (miF g), id := id, tmo := tmo : BSt }
 (f (0 + i.toNat)).att).id),
 SV.d
 (Value.int IntKind.i64
 (begB { L := L, now := now, ms := rowMi n (miF g), id := id, tmo := tmo : BSt }
 (f (0 + i.toNat)).att).tmo)],
 AB.cells 86
 [SV.d
 (Value.int IntKind.i64
 (begB { L := L, now := now, ms := rowMi n (miF g), id := id, tmo := tmo : BSt }
 (f (0 + i.toNat)).att).L.room),
 SV.d
 (Value.int IntKind.u64
 (begB { L := L, now := now, ms := rowMi n (miF g), id := id, tmo := tmo : BSt }
 (f (0 + i.toNat)).att).L.first),
 SV.d
 (Value.int IntKind.u64
 (begB { L := L, now := now, ms := rowMi n (miF g), id := id, tmo := tmo : BSt }
 (f (0 + i.toNat)).att).L.next),
 SV.d
 (Value.int IntKind.i64
 (begB { L := L, now := now, ms := rowMi n (miF g), id := id, tmo := tmo : BSt }
 (f (0 + i.toNat)).att).L.last),
 SV.mp 3],
 AB.pm
 (begB { L := L, now := now, ms := rowMi n (miF g), id := id, tmo := tmo : BSt }
 (f (0 + i.toNat)).att).L.es,
 AB.dead,
 AB.cells 63
 [SV.d (Value.int IntKind.i64 (f (0 + i.toNat)).kind),
 SV.d (Value.int IntKind.i64 (f (0 + i.toNat)).size),
 SV.d (Value.int IntKind.i64 (f (0 + i.toNat)).att),
 SV.d (Value.int IntKind.u64 (f (0 + i.toNat)).seq)],
 AB.row 80 15
 (begB { L := L, now := now, ms := rowMi n (miF g), id := id, tmo := tmo : BSt }
 (f (0 + i.toNat)).att).ms.length
 (miG
 (begB { L := L, now := now, ms := rowMi n (miF g), id := id, tmo := tmo : BSt }
 (f (0 + i.toNat)).att).ms)]))))
 (T.ite ((f (0 + i.toNat)).kind == 1)
 (T.need
 ((n = n ∧ MiRow n (miF g)) ∧
 { L := L, now := now, ms := rowMi n (miF g), id := id, tmo := tmo : BSt }.Ok ∧
 anyB { L := L, now := now, ms := rowMi n (miF g), id := id, tmo := tmo : BSt })
 (T.ite
 (sbE { L := L, now := now, ms := rowMi n (miF g), id := id, tmo := tmo : BSt } (f (0 + i.toNat)).size
 (f (0 + i.toNat)).att ==
 0)
 (T.ret
 (Exit.normal,
 [AV.e (EV.s (SV.d (Value.int IntKind.i64 room))), AV.e (EV.s (SV.d (Value.int IntKind.i64 tmo))),
 AV.e (EV.s (SV.sl 0 4 0 ns z)), AV.e (EV.s (SV.ptr 1 0)),
 AV.e (EV.s (SV.d (Value.int IntKind.i64 (f (0 + i.toNat)).att))),
 AV.e (EV.s (SV.d (Value.int IntKind.i64 (IntKind.i64.wrap (i + 1)))))],
 [AB.ro 4 ns (sqF f),
 AB.cells 95
 [SV.ptr 2 0,
 SV.d
 (Value.int IntKind.i64
 (sbB { L := L, now := now, ms := rowMi n (miF g), id := id, tmo := tmo : BSt }
 ((f (0 + i.toNat)).size, (f (0 + i.toNat)).att).fst
 ((f (0 + i.toNat)).size, (f (0 + i.toNat)).att).snd).now),
 SV.sl 6 15 0
 (sbB { L := L, now := now, ms := rowMi n (miF g), id := id, tmo := tmo : BSt }
 ((f (0 + i.toNat)).size, (f (0 + i.toNat)).att).fst
 ((f (0 + i.toNat)).size, (f (0 + i.toNat)).att).snd).ms.length
 0,
 SV.d
 (Value.int IntKind.i64
 (sbB { L := L, now := now, ms := rowMi n (miF g), id := id, tmo := tmo : BSt }
 ((f (0 + i.toNat)).size, (f (0 + i.toNat)).att).fst
 ((f (0 + i.toNat)).size, (f (0 + i.toNat)).att).snd).id),
 SV.d
 (Value.int IntKind.i64
 (sbB { L := L, now := now, ms := rowMi n (miF g), id := id, tmo := tmo : BSt }
 ((f (0 + i.toNat)).size, (f (0 + i.toNat)).att).fst
 ((f (0 + i.toNat)).size, (f (0 + i.toNat)).att).snd).tmo)],
 AB.cells 86
 [SV.d
 (Value.int IntKind.i64
 (sbB { L := L, now := now, ms := rowMi n (miF g), id := id, tmo := tmo : BSt }
 ((f (0 + i.toNat)).size, (f (0 + i.toNat)).att).fst
 ((f (0 + i.toNat)).size, (f (0 + i.toNat)).att).snd).L.room),
 SV.d
 (Value.int IntKind.u64
 (sbB { L := L, now := now, ms := rowMi n (miF g), id := id, tmo := tmo : BSt }
 ((f (0 + i.toNat)).size, (f (0 + i.toNat)).att).fst
 ((f (0 + i.toNat)).size, (f (0 + i.toNat)).att).snd).L.first),
 SV.d
 (Value.int IntKind.u64
 (sbB { L := L, now := now, ms := rowMi n (miF g), id := id, tmo := tmo : BSt }
 ((f (0 + i.toNat)).size, (f (0 + i.toNat)).att).fst
 ((f (0 + i.toNat)).size, (f (0 + i.toNat)).att).snd).L.next),
 SV.d
 (Value.int IntKind.i64
 (sbB { L := L, now := now, ms := rowMi n (miF g), id := id, tmo := tmo : BSt }
 ((f (0 + i.toNat)).size, (f (0 + i.toNat)).att).fst
 ((f (0 + i.toNat)).size, (f (0 + i.toNat)).att).snd).L.last),
 SV.mp 3],
 AB.pm
 (sbB { L := L, now := now, ms := rowMi n (miF g), id := id, tmo := tmo : BSt }
 ((f (0 + i.toNat)).size, (f (0 + i.toNat)).att).fst
 ((f (0 + i.toNat)).size, (f (0 + i.toNat)).att).snd).L.es,
 AB.dead,
 AB.cells 63
 [SV.d (Value.int IntKind.i64 (f (0 + i.toNat)).kind),
 SV.d (Value.int IntKind.i64 (f (0 + i.toNat)).size),
 SV.d (Value.int IntKind.i64 (f (0 + i.toNat)).att),
 SV.d (Value.int IntKind.u64 (f (0 + i.toNat)).seq)],
 AB.row 80 15
 (sbB { L := L, now := now, ms := rowMi n (miF g), id := id, tmo := tmo : BSt }
 ((f (0 + i.toNat)).size, (f (0 + i.toNat)).att).fst
 ((f (0 + i.toNat)).size, (f (0 + i.toNat)).att).snd).ms.length
 (miG
 (sbB { L := L, now := now, ms := rowMi n (miF g), id := id, tmo := tmo : BSt }
 ((f (0 + i.toNat)).size, (f (0 + i.toNat)).att).fst
 ((f (0 + i.toNat)).size, (f (0 + i.toNat)).att).snd).ms)]))
 (T.ret
 (Exit.normal,
 [AV.e (EV.s (SV.d (Value.int IntKind.i64 room))), AV.e (EV.s (SV.d (Value.int IntKind.i64 tmo))),
 AV.e (EV.s (SV.sl 0 4 0 ns z)), AV.e (EV.s (SV.ptr 1 0)),
 AV.e (EV.s (SV.d (Value.int IntKind.i64 now))),
 AV.e (EV.s (SV.d (Value.int IntKind.i64 (IntKind.i64.wrap (i + 1)))))],
 [AB.ro 4 ns (sqF f),
 AB.cells 95
 [SV.ptr 2 0,
 SV.d
 (Value.int IntKind.i64
 (sbB { L := L, now := now, ms := rowMi n (miF g), id := id, tmo := tmo : BSt }
 ((f (0 + i.toNat)).size, (f (0 + i.toNat)).att).fst
 ((f (0 + i.toNat)).size, (f (0 + i.toNat)).att).snd).now),
 SV.sl 6 15 0
 (sbB { L := L, now := now, ms := rowMi n (miF g), id := id, tmo := tmo : BSt }
 ((f (0 + i.toNat)).size, (f (0 + i.toNat)).att).fst
 ((f (0 + i.toNat)).size, (f (0 + i.toNat)).att).snd).ms.length
 0,
 SV.d
 (Value.int IntKind.i64
 (sbB { L := L, now := now, ms := rowMi n (miF g), id := id, tmo := tmo : BSt }
 ((f (0 + i.toNat)).size, (f (0 + i.toNat)).att).fst
 ((f (0 + i.toNat)).size, (f (0 + i.toNat)).att).snd).id),
 SV.d
 (Value.int IntKind.i64
 (sbB { L := L, now := now, ms := rowMi n (miF g), id := id, tmo := tmo : BSt }
 ((f (0 + i.toNat)).size, (f (0 + i.toNat)).att).fst
 ((f (0 + i.toNat)).size, (f (0 + i.toNat)).att).snd).tmo)],
 AB.cells 86
 [SV.d
 (Value.int IntKind.i64
 (sbB { L := L, now := now, ms := rowMi n (miF g), id := id, tmo := tmo : BSt }
 ((f (0 + i.toNat)).size, (f (0 + i.toNat)).att).fst
 ((f (0 + i.toNat)).size, (f (0 + i.toNat)).att).snd).L.room),
 SV.d
 (Value.int IntKind.u64
 (sbB { L := L, now := now, ms := rowMi n (miF g), id := id, tmo := tmo : BSt }
 ((f (0 + i.toNat)).size, (f (0 + i.toNat)).att).fst
 ((f (0 + i.toNat)).size, (f (0 + i.toNat)).att).snd).L.first),
 SV.d
 (Value.int IntKind.u64
 (sbB { L := L, now := now, ms := rowMi n (miF g), id := id, tmo := tmo : BSt }
 ((f (0 + i.toNat)).size, (f (0 + i.toNat)).att).fst
 ((f (0 + i.toNat)).size, (f (0 + i.toNat)).att).snd).L.next),
 SV.d
 (Value.int IntKind.i64
 (sbB { L := L, now := now, ms := rowMi n (miF g), id := id, tmo := tmo : BSt }
 ((f (0 + i.toNat)).size, (f (0 + i.toNat)).att).fst
 ((f (0 + i.toNat)).size, (f (0 + i.toNat)).att).snd).L.last),
 SV.mp 3],
 AB.pm
 (sbB { L := L, now := now, ms := rowMi n (miF g), id := id, tmo := tmo : BSt }
 ((f (0 + i.toNat)).size, (f (0 + i.toNat)).att).fst
 ((f (0 + i.toNat)).size, (f (0 + i.toNat)).att).snd).L.es,
 AB.dead,
 AB.cells 63
 [SV.d (Value.int IntKind.i64 (f (0 + i.toNat)).kind),
 SV.d (Value.int IntKind.i64 (f (0 + i.toNat)).size),
 SV.d (Value.int IntKind.i64 (f (0 + i.toNat)).att),
 SV.d (Value.int IntKind.u64 (f (0 + i.toNat)).seq)],
 AB.row 80 15
 (sbB { L := L, now := now, ms := rowMi n (miF g), id := id, tmo := tmo : BSt }
 ((f (0 + i.toNat)).size, (f (0 + i.toNat)).att).fst
 ((f (0 + i.toNat)).size, (f (0 + i.toNat)).att).snd).ms.length
 (miG
 (sbB { L := L, now := now, ms := rowMi n (miF g), id := id, tmo := tmo : BSt }
 ((f (0 + i.toNat)).size, (f (0 + i.toNat)).att).fst
 ((f (0 + i.toNat)).size, (f (0 + i.toNat)).att).snd).ms)]))))
 (T.ite ((f (0 + i.toNat)).kind == 2)
 (T.need
 ((n = n ∧ MiRow n (miF g)) ∧
 { L := L, now := now, ms := rowMi n (miF g), id := id, tmo := tmo : BSt }.Ok ∧
 anyB { L := L, now := now, ms := rowMi n (miF g), id := id, tmo := tmo : BSt })
 (T.ite
 (enE { L := L, now := now, ms := rowMi n (miF g), id := id, tmo := tmo : BSt } (f (0 + i.toNat)).seq
 (f (0 + i.toNat)).att ==
 0)
 (T.ret
 (Exit.normal,
 [AV.e (EV.s (SV.d (Value.int IntKind.i64 room))), AV.e (EV.s (SV.d (Value.int IntKind.i64 tmo))),
 AV.e (EV.s (SV.sl 0 4 0 ns z)), AV.e (EV.s (SV.ptr 1 0)),
 AV.e (EV.s (SV.d (Value.int IntKind.i64 (f (0 + i.toNat)).att))),
 AV.e (EV.s (SV.d (Value.int IntKind.i64 (IntKind.i64.wrap (i + 1)))))],
 [AB.ro 4 ns (sqF f),
 AB.cells 95
 [SV.ptr 2 0,
 SV.d
 (Value.int IntKind.i64
 (akB { L := L, now := now, ms := rowMi n (miF g), id := id, tmo := tmo : BSt }
 ((f (0 + i.toNat)).seq, (f (0 + i.toNat)).att).fst
 ((f (0 + i.toNat)).seq, (f (0 + i.toNat)).att).snd).now),
 SV.sl 6 15 0
 (akB { L := L, now := now, ms := rowMi n (miF g), id := id, tmo := tmo : BSt }
 ((f (0 + i.toNat)).seq, (f (0 + i.toNat)).att).fst
 ((f (0 + i.toNat)).seq, (f (0 + i.toNat)).att).snd).ms.length
 0,
 SV.d
 (Value.int IntKind.i64
 (akB { L := L, now := now, ms := rowMi n (miF g), id := id, tmo := tmo : BSt }
 ((f (0 + i.toNat)).seq, (f (0 + i.toNat)).att).fst
 ((f (0 + i.toNat)).seq, (f (0 + i.toNat)).att).snd).id),
 SV.d
 (Value.int IntKind.i64
 (akB { L := L, now := now, ms := rowMi n (miF g), id := id, tmo := tmo : BSt }
 ((f (0 + i.toNat)).seq, (f (0 + i.toNat)).att).fst
 ((f (0 + i.toNat)).seq, (f (0 + i.toNat)).att).snd).tmo)],
 AB.cells 86
 [SV.d
 (Value.int IntKind.i64
 (akB { L := L, now := now, ms := rowMi n (miF g), id := id, tmo := tmo : BSt }
 ((f (0 + i.toNat)).seq, (f (0 + i.toNat)).att).fst
 ((f (0 + i.toNat)).seq, (f (0 + i.toNat)).att).snd).L.room),
 SV.d
 (Value.int IntKind.u64
 (akB { L := L, now := now, ms := rowMi n (miF g), id := id, tmo := tmo : BSt }
 ((f (0 + i.toNat)).seq, (f (0 + i.toNat)).att).fst
 ((f (0 + i.toNat)).seq, (f (0 + i.toNat)).att).snd).L.first),
 SV.d
 (Value.int IntKind.u64
 (akB { L := L, now := now, ms := rowMi n (miF g), id := id, tmo := tmo : BSt }
 ((f (0 + i.toNat)).seq, (f (0 + i.toNat)).att).fst
 ((f (0 + i.toNat)).seq, (f (0 + i.toNat)).att).snd).L.next),
 SV.d
 (Value.int IntKind.i64
 (akB { L := L, now := now, ms := rowMi n (miF g), id := id, tmo := tmo : BSt }
 ((f (0 + i.toNat)).seq, (f (0 + i.toNat)).att).fst
 ((f (0 + i.toNat)).seq, (f (0 + i.toNat)).att).snd).L.last),
 SV.mp 3],
 AB.pm
 (akB { L := L, now := now, ms := rowMi n (miF g), id := id, tmo := tmo : BSt }
 ((f (0 + i.toNat)).seq, (f (0 + i.toNat)).att).fst
 ((f (0 + i.toNat)).seq, (f (0 + i.toNat)).att).snd).L.es,
 AB.dead,
 AB.cells 63
 [SV.d (Value.int IntKind.i64 (f (0 + i.toNat)).kind),
 SV.d (Value.int IntKind.i64 (f (0 + i.toNat)).size),
 SV.d (Value.int IntKind.i64 (f (0 + i.toNat)).att),
 SV.d (Value.int IntKind.u64 (f (0 + i.toNat)).seq)],
 AB.row 80 15
 (akB { L := L, now := now, ms := rowMi n (miF g), id := id, tmo := tmo : BSt }
 ((f (0 + i.toNat)).seq, (f (0 + i.toNat)).att).fst
 ((f (0 + i.toNat)).seq, (f (0 + i.toNat)).att).snd).ms.length
 (miG
 (akB { L := L, now := now, ms := rowMi n (miF g), id := id, tmo := tmo : BSt }
 ((f (0 + i.toNat)).seq, (f (0 + i.toNat)).att).fst
 ((f (0 + i.toNat)).seq, (f (0 + i.toNat)).att).snd).ms),
 AB.cells 36
 [SV.d
 (Value.int IntKind.u64
 (enP { L := L, now := now, ms := rowMi n (miF g), id := id, tmo := tmo : BSt }
 (f (0 + i.toNat)).seq (f (0 + i.toNat)).att).seq),
 SV.d
 (Value.int IntKind.i64
 (enP { L := L, now := now, ms := rowMi n (miF g), id := id, tmo := tmo : BSt }
 (f (0 + i.toNat)).seq (f (0 + i.toNat)).att).mi),
 SV.d
 (Value.int IntKind.i64
 (enP { L := L, now := now, ms := rowMi n (miF g), id := id, tmo := tmo : BSt }
 (f (0 + i.toNat)).seq (f (0 + i.toNat)).att).size),
 SV.d
 (Value.int IntKind.i64
 (enP { L := L, now := now, ms := rowMi n (miF g), id := id, tmo := tmo : BSt }
 (f (0 + i.toNat)).seq (f (0 + i.toNat)).att).sent)]]))
 (T.ret
 (Exit.normal,
 [AV.e (EV.s (SV.d (Value.int IntKind.i64 room))), AV.e (EV.s (SV.d (Value.int IntKind.i64 tmo))),
 AV.e (EV.s (SV.sl 0 4 0 ns z)), AV.e (EV.s (SV.ptr 1 0)),
 AV.e (EV.s (SV.d (Value.int IntKind.i64 now))),
 AV.e (EV.s (SV.d (Value.int IntKind.i64 (IntKind.i64.wrap (i + 1)))))],
 [AB.ro 4 ns (sqF f),
 AB.cells 95
 [SV.ptr 2 0,
 SV.d
 (Value.int IntKind.i64
 (akB { L := L, now := now, ms := rowMi n (miF g), id := id, tmo := tmo : BSt }
 ((f (0 + i.toNat)).seq, (f (0 + i.toNat)).att).fst
 ((f (0 + i.toNat)).seq, (f (0 + i.toNat)).att).snd).now),
 SV.sl 6 15 0
 (akB { L := L, now := now, ms := rowMi n (miF g), id := id, tmo := tmo : BSt }
 ((f (0 + i.toNat)).seq, (f (0 + i.toNat)).att).fst
 ((f (0 + i.toNat)).seq, (f (0 + i.toNat)).att).snd).ms.length
 0,
 SV.d
 (Value.int IntKind.i64
 (akB { L := L, now := now, ms := rowMi n (miF g), id := id, tmo := tmo : BSt }
 ((f (0 + i.toNat)).seq, (f (0 + i.toNat)).att).fst
 ((f (0 + i.toNat)).seq, (f (0 + i.toNat)).att).snd).id),
 SV.d
 (Value.int IntKind.i64
 (akB { L := L, now := now, ms := rowMi n (miF g), id := id, tmo := tmo : BSt }
 ((f (0 + i.toNat)).seq, (f (0 + i.toNat)).att).fst
 ((f (0 + i.toNat)).seq, (f (0 + i.toNat)).att).snd).tmo)],
 AB.cells 86
 [SV.d
 (Value.int IntKind.i64
 (akB { L := L, now := now, ms := rowMi n (miF g), id := id, tmo := tmo : BSt }
 ((f (0 + i.toNat)).seq, (f (0 + i.toNat)).att).fst
 ((f (0 + i.toNat)).seq, (f (0 + i.toNat)).att).snd).L.room),
 SV.d
 (Value.int IntKind.u64
 (akB { L := L, now := now, ms := rowMi n (miF g), id := id, tmo := tmo : BSt }
 ((f (0 + i.toNat)).seq, (f (0 + i.toNat)).att).fst
 ((f (0 + i.toNat)).seq, (f (0 + i.toNat)).att).snd).L.first),
 SV.d
 (Value.int IntKind.u64
 (akB { L := L, now := now, ms := rowMi n (miF g), id := id, tmo := tmo : BSt }
 ((f (0 + i.toNat)).seq, (f (0 + i.toNat)).att).fst
 ((f (0 + i.toNat)).seq, (f (0 + i.toNat)).att).snd).L.next),
 SV.d
 (Value.int IntKind.i64
 (akB { L := L, now := now, ms := rowMi n (miF g), id := id, tmo := tmo : BSt }
 ((f (0 + i.toNat)).seq, (f (0 + i.toNat)).att).fst
 ((f (0 + i.toNat)).seq, (f (0 + i.toNat)).att).snd).L.last),
 SV.mp 3],
 AB.pm
 (akB { L := L, now := now, ms := rowMi n (miF g), id := id, tmo := tmo : BSt }
 ((f (0 + i.toNat)).seq, (f (0 + i.toNat)).att).fst
 ((f (0 + i.toNat)).seq, (f (0 + i.toNat)).att).snd).L.es,
 AB.dead,
 AB.cells 63
 [SV.d (Value.int IntKind.i64 (f (0 + i.toNat)).kind),
 SV.d (Value.int IntKind.i64 (f (0 + i.toNat)).size),
 SV.d (Value.int IntKind.i64 (f (0 + i.toNat)).att),
 SV.d (Value.int IntKind.u64 (f (0 + i.toNat)).seq)],
 AB.row 80 15
 (akB { L := L, now := now, ms := rowMi n (miF g), id := id, tmo := tmo : BSt }
 ((f (0 + i.toNat)).seq, (f (0 + i.toNat)).att).fst
 ((f (0 + i.toNat)).seq, (f (0 + i.toNat)).att).snd).ms.length
 (miG
 (akB { L := L, now := now, ms := rowMi n (miF g), id := id, tmo := tmo : BSt }
 ((f (0 + i.toNat)).seq, (f (0 + i.toNat)).att).fst
 ((f (0 + i.toNat)).seq, (f (0 + i.toNat)).att).snd).ms),
 AB.cells 36
 [SV.d
 (Value.int IntKind.u64
 (enP { L := L, now := now, ms := rowMi n (miF g), id := id, tmo := tmo : BSt }
 (f (0 + i.toNat)).seq (f (0 + i.toNat)).att).seq),
 SV.d
 (Value.int IntKind.i64
 (enP { L := L, now := now, ms := rowMi n (miF g), id := id, tmo := tmo : BSt }
 (f (0 + i.toNat)).seq (f (0 + i.toNat)).att).mi),
 SV.d
 (Value.int IntKind.i64
 (enP { L := L, now := now, ms := rowMi n (miF g), id := id, tmo := tmo : BSt }
 (f (0 + i.toNat)).seq (f (0 + i.toNat)).att).size),
 SV.d
 (Value.int IntKind.i64
 (enP { L := L, now := now, ms := rowMi n (miF g), id := id, tmo := tmo : BSt }
 (f (0 + i.toNat)).seq (f (0 + i.toNat)).att).sent)]]))))
 (T.ite ((f (0 + i.toNat)).kind == 3)
 (T.need
 ((n = n ∧ MiRow n (miF g)) ∧
 { L := L, now := now, ms := rowMi n (miF g), id := id, tmo := tmo : BSt }.Ok ∧
 anyB { L := L, now := now, ms := rowMi n (miF g), id := id, tmo := tmo : BSt })
 (T.ite
 (enE { L := L, now := now, ms := rowMi n (miF g), id := id, tmo := tmo : BSt } (f (0 + i.toNat)).seq
 (f (0 + i.toNat)).att ==
 0)
 (T.ret
 (Exit.normal,
 [AV.e (EV.s (SV.d (Value.int IntKind.i64 room))), AV.e (EV.s (SV.d (Value.int IntKind.i64 tmo))),
 AV.e (EV.s (SV.sl 0 4 0 ns z)), AV.e (EV.s (SV.ptr 1 0)),
 AV.e (EV.s (SV.d (Value.int IntKind.i64 (f (0 + i.toNat)).att))),
 AV.e (EV.s (SV.d (Value.int IntKind.i64 (IntKind.i64.wrap (i + 1)))))],
 [AB.ro 4 ns (sqF f),
 AB.cells 95
 [SV.ptr 2 0,
 SV.d
 (Value.int IntKind.i64
 (loB { L := L, now := now, ms := rowMi n (miF g), id := id, tmo := tmo : BSt }
 ((f (0 + i.toNat)).seq, (f (0 + i.toNat)).att).fst
 ((f (0 + i.toNat)).seq, (f (0 + i.toNat)).att).snd).now),
 SV.sl 6 15 0
 (loB { L := L, now := now, ms := rowMi n (miF g), id := id, tmo := tmo : BSt }
 ((f (0 + i.toNat)).seq, (f (0 + i.toNat)).att).fst
 ((f (0 + i.toNat)).seq, (f (0 + i.toNat)).att).snd).ms.length
 0,
 SV.d
 (Value.int IntKind.i64
 (loB { L := L, now := now, ms := rowMi n (miF g), id := id, tmo := tmo : BSt }
 ((f (0 + i.toNat)).seq, (f (0 + i.toNat)).att).fst
 ((f (0 + i.toNat)).seq, (f (0 + i.toNat)).att).snd).id),
 SV.d
 (Value.int IntKind.i64
 (loB { L := L, now := now, ms := rowMi n (miF g), id := id, tmo := tmo : BSt }
 ((f (0 + i.toNat)).seq, (f (0 + i.toNat)).att).fst
 ((f (0 + i.toNat)).seq, (f (0 + i.toNat)).att).snd).tmo)],
 AB.cells 86
 [SV.d
 (Value.int IntKind.i64
 (loB { L := L, now := now, ms := rowMi n (miF g), id := id, tmo := tmo : BSt }
 ((f (0 + i.toNat)).seq, (f (0 + i.toNat)).att).fst
 ((f (0 + i.toNat)).seq, (f (0 + i.toNat)).att).snd).L.room),
 SV.d
 (Value.int IntKind.u64
 (loB { L := L, now := now, ms := rowMi n (miF g), id := id, tmo := tmo : BSt }
 ((f (0 + i.toNat)).seq, (f (0 + i.toNat)).att).fst
 ((f (0 + i.toNat)).seq, (f (0 + i.toNat)).att).snd).L.first),
 SV.d
 (Value.int IntKind.u64
 (loB { L := L, now := now, ms := rowMi n (miF g), id := id, tmo := tmo : BSt }
 ((f (0 + i.toNat)).seq, (f (0 + i.toNat)).att).fst
 ((f (0 + i.toNat)).seq, (f (0 + i.toNat)).att).snd).L.next),
 SV.d
 (Value.int IntKind.i64
 (loB { L := L, now := now, ms := rowMi n (miF g), id := id, tmo := tmo : BSt }
 ((f (0 + i.toNat)).seq, (f (0 + i.toNat)).att).fst
 ((f (0 + i.toNat)).seq, (f (0 + i.toNat)).att).snd).L.last),
 SV.mp 3],
 AB.pm
 (loB { L := L, now := now, ms := rowMi n (miF g), id := id, tmo := tmo : BSt }
 ((f (0 + i.toNat)).seq, (f (0 + i.toNat)).att).fst
 ((f (0 + i.toNat)).seq, (f (0 + i.toNat)).att).snd).L.es,
 AB.dead,
 AB.cells 63
 [SV.d (Value.int IntKind.i64 (f (0 + i.toNat)).kind),
 SV.d (Value.int IntKind.i64 (f (0 + i.toNat)).size),
 SV.d (Value.int IntKind.i64 (f (0 + i.toNat)).att),
 SV.d (Value.int IntKind.u64 (f (0 + i.toNat)).seq)],
 AB.row 80 15
 (loB { L := L, now := now, ms := rowMi n (miF g), id := id, tmo := tmo : BSt }
 ((f (0 + i.toNat)).seq, (f (0 + i.toNat)).att).fst
 ((f (0 + i.toNat)).seq, (f (0 + i.toNat)).att).snd).ms.length
 (miG
 (loB { L := L, now := now, ms := rowMi n (miF g), id := id, tmo := tmo : BSt }
 ((f (0 + i.toNat)).seq, (f (0 + i.toNat)).att).fst
 ((f (0 + i.toNat)).seq, (f (0 + i.toNat)).att).snd).ms),
 AB.cells 36
 [SV.d
 (Value.int IntKind.u64
 (enP { L := L, now := now, ms := rowMi n (miF g), id := id, tmo := tmo : BSt }
 (f (0 + i.toNat)).seq (f (0 + i.toNat)).att).seq),
 SV.d
 (Value.int IntKind.i64
 (enP { L := L, now := now, ms := rowMi n (miF g), id := id, tmo := tmo : BSt }
 (f (0 + i.toNat)).seq (f (0 + i.toNat)).att).mi),
 SV.d
 (Value.int IntKind.i64
 (enP { L := L, now := now, ms := rowMi n (miF g), id := id, tmo := tmo : BSt }
 (f (0 + i.toNat)).seq (f (0 + i.toNat)).att).size),
 SV.d
 (Value.int IntKind.i64
 (enP { L := L, now := now, ms := rowMi n (miF g), id := id, tmo := tmo : BSt }
 (f (0 + i.toNat)).seq (f (0 + i.toNat)).att).sent)]]))
 (T.ret
 (Exit.normal,
 [AV.e (EV.s (SV.d (Value.int IntKind.i64 room))), AV.e (EV.s (SV.d (Value.int IntKind.i64 tmo))),
 AV.e (EV.s (SV.sl 0 4 0 ns z)), AV.e (EV.s (SV.ptr 1 0)),
 AV.e (EV.s (SV.d (Value.int IntKind.i64 now))),
 AV.e (EV.s (SV.d (Value.int IntKind.i64 (IntKind.i64.wrap (i + 1)))))],
 [AB.ro 4 ns (sqF f),
 AB.cells 95
 [SV.ptr 2 0,
 SV.d
 (Value.int IntKind.i64
 (loB { L := L, now := now, ms := rowMi n (miF g), id := id, tmo := tmo : BSt }
 ((f (0 + i.toNat)).seq, (f (0 + i.toNat)).att).fst
 ((f (0 + i.toNat)).seq, (f (0 + i.toNat)).att).snd).now),
 SV.sl 6 15 0
 (loB { L := L, now := now, ms := rowMi n (miF g), id := id, tmo := tmo : BSt }
 ((f (0 + i.toNat)).seq, (f (0 + i.toNat)).att).fst
 ((f (0 + i.toNat)).seq, (f (0 + i.toNat)).att).snd).ms.length
 0,
 SV.d
 (Value.int IntKind.i64
 (loB { L := L, now := now, ms := rowMi n (miF g), id := id, tmo := tmo : BSt }
 ((f (0 + i.toNat)).seq, (f (0 + i.toNat)).att).fst
 ((f (0 + i.toNat)).seq, (f (0 + i.toNat)).att).snd).id),
 SV.d
 (Value.int IntKind.i64
 (loB { L := L, now := now, ms := rowMi n (miF g), id := id, tmo := tmo : BSt }
 ((f (0 + i.toNat)).seq, (f (0 + i.toNat)).att).fst
 ((f (0 + i.toNat)).seq, (f (0 + i.toNat)).att).snd).tmo)],
 AB.cells 86
 [SV.d
 (Value.int IntKind.i64
 (loB { L := L, now := now, ms := rowMi n (miF g), id := id, tmo := tmo : BSt }
 ((f (0 + i.toNat)).seq, (f (0 + i.toNat)).att).fst
 ((f (0 + i.toNat)).seq, (f (0 + i.toNat)).att).snd).L.room),
 SV.d
 (Value.int IntKind.u64
 (loB { L := L, now := now, ms := rowMi n (miF g), id := id, tmo := tmo : BSt }
 ((f (0 + i.toNat)).seq, (f (0 + i.toNat)).att).fst
 ((f (0 + i.toNat)).seq, (f (0 + i.toNat)).att).snd).L.first),
 SV.d
 (Value.int IntKind.u64
 (loB { L := L, now := now, ms := rowMi n (miF g), id := id, tmo := tmo : BSt }
 ((f (0 + i.toNat)).seq, (f (0 + i.toNat)).att).fst
 ((f (0 + i.toNat)).seq, (f (0 + i.toNat)).att).snd).L.next),
 SV.d
 (Value.int IntKind.i64
 (loB { L := L, now := now, ms := rowMi n (miF g), id := id, tmo := tmo : BSt }
 ((f (0 + i.toNat)).seq, (f (0 + i.toNat)).att).fst
 ((f (0 + i.toNat)).seq, (f (0 + i.toNat)).att).snd).L.last),
 SV.mp 3],
 AB.pm
 (loB { L := L, now := now, ms := rowMi n (miF g), id := id, tmo := tmo : BSt }
 ((f (0 + i.toNat)).seq, (f (0 + i.toNat)).att).fst
 ((f (0 + i.toNat)).seq, (f (0 + i.toNat)).att).snd).L.es,
 AB.dead,
 AB.cells 63
 [SV.d (Value.int IntKind.i64 (f (0 + i.toNat)).kind),
 SV.d (Value.int IntKind.i64 (f (0 + i.toNat)).size),
 SV.d (Value.int IntKind.i64 (f (0 + i.toNat)).att),
 SV.d (Value.int IntKind.u64 (f (0 + i.toNat)).seq)],
 AB.row 80 15
 (loB { L := L, now := now, ms := rowMi n (miF g), id := id, tmo := tmo : BSt }
 ((f (0 + i.toNat)).seq, (f (0 + i.toNat)).att).fst
 ((f (0 + i.toNat)).seq, (f (0 + i.toNat)).att).snd).ms.length
 (miG
 (loB { L := L, now := now, ms := rowMi n (miF g), id := id, tmo := tmo : BSt }
 ((f (0 + i.toNat)).seq, (f (0 + i.toNat)).att).fst
 ((f (0 + i.toNat)).seq, (f (0 + i.toNat)).att).snd).ms),
 AB.cells 36
 [SV.d
 (Value.int IntKind.u64
 (enP { L := L, now := now, ms := rowMi n (miF g), id := id, tmo := tmo : BSt }
 (f (0 + i.toNat)).seq (f (0 + i.toNat)).att).seq),
 SV.d
 (Value.int IntKind.i64
 (enP { L := L, now := now, ms := rowMi n (miF g), id := id, tmo := tmo : BSt }
 (f (0 + i.toNat)).seq (f (0 + i.toNat)).att).mi),
 SV.d
 (Value.int IntKind.i64
 (enP { L := L, now := now, ms := rowMi n (miF g), id := id, tmo := tmo : BSt }
 (f (0 + i.toNat)).seq (f (0 + i.toNat)).att).size),
 SV.d
 (Value.int IntKind.i64
 (enP { L := L, now := now, ms := rowMi n (miF g), id := id, tmo := tmo : BSt }
 (f (0 + i.toNat)).seq (f (0 + i.toNat)).att).sent)]]))))
 (T.ret
 (Exit.normal,
 [AV.e (EV.s (SV.d (Value.int IntKind.i64 room))), AV.e (EV.s (SV.d (Value.int IntKind.i64 tmo))),
 AV.e (EV.s (SV.sl 0 4 0 ns z)), AV.e (EV.s (SV.ptr 1 0)),
 AV.e (EV.s (SV.d (Value.int IntKind.i64 now))),
 AV.e (EV.s (SV.d (Value.int IntKind.i64 (IntKind.i64.wrap (i + 1)))))],
 [AB.ro 4 ns (sqF f),
 AB.cells 95
 [SV.ptr 2 0, SV.d (Value.int IntKind.i64 now), SV.sl 4 15 0 n 0, SV.d (Value.int IntKind.i64 id),
 SV.d (Value.int IntKind.i64 tmo)],
 AB.cells 86
 [SV.d (Value.int IntKind.i64 L.room), SV.d (Value.int IntKind.u64 L.first),
 SV.d (Value.int IntKind.u64 L.next), SV.d (Value.int IntKind.i64 L.last), SV.mp 3],
 AB.pm L.es, AB.row 80 15 n (miF g),
 AB.cells 63
 [SV.d (Value.int IntKind.i64 (f (0 + i.toNat)).kind),
 SV.d (Value.int IntKind.i64 (f (0 + i.toNat)).size),
 SV.d (Value.int IntKind.i64 (f (0 + i.toNat)).att),
 SV.d (Value.int IntKind.u64 (f (0 + i.toNat)).seq)]]))))))))
 (T.ret
 (Exit.exit 0,
 [AV.e (EV.s (SV.d (Value.int IntKind.i64 room))), AV.e (EV.s (SV.d (Value.int IntKind.i64 tmo))),
 AV.e (EV.s (SV.sl 0 4 0 ns z)), AV.e (EV.s (SV.ptr 1 0)), AV.e (EV.s (SV.d (Value.int IntKind.i64 now))),
 AV.e (EV.s (SV.d (Value.int IntKind.i64 i)))],
 [AB.ro 4 ns (sqF f),
 AB.cells 95
 [SV.ptr 2 0, SV.d (Value.int IntKind.i64 now), SV.sl 4 15 0 n 0, SV.d (Value.int IntKind.i64 id),
 SV.d (Value.int IntKind.i64 tmo)],
 AB.cells 86
 [SV.d (Value.int IntKind.i64 L.room), SV.d (Value.int IntKind.u64 L.first),
 SV.d (Value.int IntKind.u64 L.next), SV.d (Value.int IntKind.i64 L.last), SV.mp 3],
 AB.pm L.es, AB.row 80 15 n (miF g)])) := by kernel_rfl


noncomputable def t9k (room first tmo : Int) (ns z : Nat) (f : Nat → Sq) (L : LSt) (n : Nat) (g : Nat → Mi) (now id : Int) (i : Int) (vs : Nat → Value) : T (AV × Heap) := ((t9 room first tmo ns z f).go [false, true]).kont (.exit 0) ⟨fat [0, 2, 3, 9, 11, 12] vs (x9 room tmo ns z now i) 207 0, H9 ns f L n (miF g) now id tmo⟩

theorem t9k_eq (room first tmo : Int) (ns z : Nat) (f : Nat → Sq) (L : LSt) (n : Nat) (g : Nat → Mi) (now id : Int) (i : Int) (vs : Nat → Value) : t9k room first tmo ns z f L n g now id i vs =
    T.need
 ((n = n ∧ MiRow n (miF g)) ∧
 { L := L, now := now, ms := rowMi n (miF g), id := id, tmo := tmo : BSt }.Ok ∧
 anyB { L := L, now := now, ms := rowMi n (miF g), id := id, tmo := tmo : BSt })
 (T.ite
 (exE { L := L, now := now, ms := rowMi n (miF g), id := id, tmo := tmo : BSt } (IntKind.i64.wrap (now + tmo)) != 0)
 (T.ite (decide (IntKind.i64.wrap (now + tmo) > 1099511627776))
 (T.ret (AV.e (EV.s (SV.c (Value.bool true))), [AB.ro 4 ns (sqF f)]))
 (T.ret (AV.e (EV.s (SV.c (Value.bool false))), [AB.ro 4 ns (sqF f)])))
 (T.need
 (((exB { L := L, now := now, ms := rowMi n (miF g), id := id, tmo := tmo : BSt }
 (IntKind.i64.wrap (now + tmo))).ms.length =
 (exB { L := L, now := now, ms := rowMi n (miF g), id := id, tmo := tmo : BSt }
 (IntKind.i64.wrap (now + tmo))).ms.length ∧
 MiRow
 (exB { L := L, now := now, ms := rowMi n (miF g), id := id, tmo := tmo : BSt }
 (IntKind.i64.wrap (now + tmo))).ms.length
 (miG
 (exB { L := L, now := now, ms := rowMi n (miF g), id := id, tmo := tmo : BSt }
 (IntKind.i64.wrap (now + tmo))).ms)) ∧
 { L := (exB { L := L, now := now, ms := rowMi n (miF g), id := id, tmo := tmo : BSt } (IntKind.i64.wrap (now + tmo))).L, now := (exB { L := L, now := now, ms := rowMi n (miF g), id := id, tmo := tmo : BSt } (IntKind.i64.wrap (now + tmo))).now, ms := rowMi (exB { L := L, now := now, ms := rowMi n (miF g), id := id, tmo := tmo : BSt } (IntKind.i64.wrap (now + tmo))).ms.length (miG (exB { L := L, now := now, ms := rowMi n (miF g), id := id, tmo := tmo : BSt } (IntKind.i64.wrap (now + tmo))).ms), id := (exB { L := L, now := now, ms := rowMi n (miF g), id := id, tmo := tmo : BSt } (IntKind.i64.wrap (now + tmo))).id, tmo := (exB { L := L, now := now, ms := rowMi n (miF g), id := id, tmo := tmo : BSt } (IntKind.i64.wrap (now + tmo))).tmo : BSt }.Ok ∧
 anyB
 { L := (exB { L := L, now := now, ms := rowMi n (miF g), id := id, tmo := tmo : BSt } (IntKind.i64.wrap (now + tmo))).L, now := (exB { L := L, now := now, ms := rowMi n (miF g), id := id, tmo := tmo : BSt } (IntKind.i64.wrap (now + tmo))).now, ms := rowMi (exB { L := L, now := now, ms := rowMi n (miF g), id := id, tmo := tmo : BSt } (IntKind.i64.wrap (now + tmo))).ms.length (miG (exB { L := L, now := now, ms := rowMi n (miF g), id := id, tmo := tmo : BSt } (IntKind.i64.wrap (now + tmo))).ms), id := (exB { L := L, now := now, ms := rowMi n (miF g), id := id, tmo := tmo : BSt } (IntKind.i64.wrap (now + tmo))).id, tmo := (exB { L := L, now := now, ms := rowMi n (miF g), id := id, tmo := tmo : BSt } (IntKind.i64.wrap (now + tmo))).tmo : BSt })
 (T.code 1 (loopAt Try.prog 9 1).loop
 { fr := [AV.e (EV.s (SV.d (Value.int IntKind.i64 room))), AV.e (EV.s (SV.d (vs 1))), AV.e (EV.s (SV.d (Value.int IntKind.i64 tmo))), AV.e (EV.s (SV.sl 0 4 0 ns z)), AV.e (EV.s (SV.d (vs 4))), AV.e (EV.s (SV.d (vs 5))), AV.e (EV.s (SV.d (vs 6))), AV.e (EV.s (SV.d (vs 7))), AV.e (EV.s (SV.d (vs 8))), AV.e (EV.s (SV.ptr 1 0)), AV.e (EV.s (SV.d (vs 10))), AV.e (EV.s (SV.d (Value.int IntKind.i64 now))), AV.e (EV.s (SV.d (Value.int IntKind.i64 i))), AV.e (EV.s (SV.d (vs 13))), AV.e (EV.s (SV.d (vs 14))), AV.e (EV.s (SV.d (vs 15))), AV.e (EV.s (SV.d (vs 16))), AV.e (EV.s (SV.d (vs 17))), AV.e (EV.s (SV.d (vs 18))), AV.e (EV.s (SV.d (vs 19))), AV.e (EV.s (SV.d (vs 20))), AV.e (EV.s (SV.d (vs 21))), AV.e (EV.s (SV.d (vs 22))), AV.e (EV.s (SV.sl 6 4 0 (exP { L := L, now := now, ms := rowMi n (miF g), id := id, tmo := tmo : BSt } (IntKind.i64.wrap (now + tmo))).length 0)), AV.e (EV.s (SV.d (Value.int IntKind.i64 (exE { L := L, now := now, ms := rowMi n (miF g), id := id, tmo := tmo : BSt } (IntKind.i64.wrap (now + tmo)))))), AV.e (EV.s (SV.d (Value.int IntKind.i64 (↑(rowMi (exB { L := L, now := now, ms := rowMi n (miF g), id := id, tmo := tmo : BSt } (IntKind.i64.wrap (now + tmo))).ms.length (miG (exB { L := L, now := now, ms := rowMi n (miF g), id := id, tmo := tmo : BSt } (IntKind.i64.wrap (now + tmo))).ms)).length : Int)))), AV.e (EV.s (SV.c (Value.int IntKind.i64 (-1)))), AV.e (EV.s (SV.c (Value.int IntKind.i64 1))), AV.e (EV.s (SV.d (vs 28))), AV.e (EV.s (SV.d (vs 29))), AV.e (EV.s (SV.d (vs 30))), AV.e (EV.s (SV.d (vs 31))), AV.e (EV.s (SV.d (vs 32))), AV.e (EV.s (SV.d (vs 33))), AV.e (EV.s (SV.d (vs 34))), AV.e (EV.s (SV.d (vs 35))), AV.e (EV.s (SV.d (vs 36))), AV.e (EV.s (SV.d (vs 37))), AV.e (EV.s (SV.d (vs 38))), AV.e (EV.s (SV.d (vs 39))), AV.e (EV.s (SV.d (vs 40))), AV.e (EV.s (SV.d (vs 41))), AV.e (EV.s (SV.d (vs 42))), AV.e (EV.s (SV.d (vs 43))), AV.e (EV.s (SV.d (vs 44))), AV.e (EV.s (SV.d (vs 45))), AV.e (EV.s (SV.d (vs 46))), AV.e (EV.s (SV.d (vs 47))), AV.e (EV.s (SV.d (vs 48))), AV.e (EV.s (SV.d (vs 49))), AV.e (EV.s (SV.d (vs 50))), AV.e (EV.s (SV.d (vs 51))), AV.e (EV.s (SV.d (vs 52))), AV.e (EV.s (SV.d (vs 53))), AV.e (EV.s (SV.d (vs 54))), AV.e (EV.s (SV.d (vs 55))), AV.e (EV.s (SV.d (vs 56))), AV.e (EV.s (SV.d (vs 57))), AV.e (EV.s (SV.d (vs 58))), AV.e (EV.s (SV.d (vs 59))), AV.e (EV.s (SV.d (vs 60))), AV.e (EV.s (SV.d (vs 61))), AV.e (EV.s (SV.d (vs 62))), AV.e (EV.s (SV.d (vs 63))), AV.e (EV.s (SV.d (vs 64))), AV.e (EV.s (SV.d (vs 65))), AV.e (EV.s (SV.d (vs 66))), AV.e (EV.s (SV.d (vs 67))), AV.e (EV.s (SV.d (vs 68))), AV.e (EV.s (SV.d (vs 69))), AV.e (EV.s (SV.d (vs 70))), AV.e (EV.s (SV.d (vs 71))), AV.e (EV.s (SV.d (vs 72))), AV.e (EV.s (SV.d (vs 73))), AV.e (EV.s (SV.d (vs 74))), AV.e (EV.s (SV.d (vs 75))), AV.e (EV.s (SV.d (vs 76))), AV.e (EV.s (SV.d (vs 77))), AV.e (EV.s (SV.d (vs 78))), AV.e (EV.s (SV.d (vs 79))), AV.e (EV.s (SV.d (vs 80))), AV.e (EV.s (SV.d (vs 81))), AV.e (EV.s (SV.d (vs 82))), AV.e (EV.s (SV.d (vs 83))), AV.e (EV.s (SV.d (vs 84))), AV.e (EV.s (SV.d (vs 85))), AV.e (EV.s (SV.d (vs 86))), AV.e (EV.s (SV.d (vs 87))), AV.e (EV.s (SV.d (vs 88))), AV.e (EV.s (SV.d (vs 89))), AV.e (EV.s (SV.d (vs 90))), AV.e (EV.s (SV.d (vs 91))), AV.e (EV.s (SV.d (vs 92))), AV.e (EV.s (SV.d (vs 93))), AV.e (EV.s (SV.d (vs 94))), AV.e (EV.s (SV.d (vs 95))), AV.e (EV.s (SV.d (vs 96))), AV.e (EV.s (SV.d (vs 97))), AV.e (EV.s (SV.d (vs 98))), AV.e (EV.s (SV.d (vs 99))), AV.e (EV.s (SV.d (vs 100))), AV.e (EV.s (SV.d (vs 101))), AV.e (EV.s (SV.d (vs 102))), AV.e (EV.s (SV.d (vs 103))), AV.e (EV.s (SV.d (vs 104))), AV.e (EV.s (SV.d (vs 105))), AV.e (EV.s (SV.d (vs 106))), AV.e (EV.s (SV.d (vs 107))), AV.e (EV.s (SV.d (vs 108))), AV.e (EV.s (SV.d (vs 109))), AV.e (EV.s (SV.d (vs 110))), AV.e (EV.s (SV.d (vs 111))), AV.e (EV.s (SV.d (vs 112))), AV.e (EV.s (SV.d (vs 113))), AV.e (EV.s (SV.d (vs 114))), AV.e (EV.s (SV.d (vs 115))), AV.tup [EV.s (SV.sl 6 4 0 (exP { L := L, now := now, ms := rowMi n (miF g), id := id, tmo := tmo : BSt } (IntKind.i64.wrap (now + tmo))).length 0), EV.s (SV.d (Value.int IntKind.i64 (exE { L := L, now := now, ms := rowMi n (miF g), id := id, tmo := tmo : BSt } (IntKind.i64.wrap (now + tmo)))))], AV.e (EV.s (SV.ptr 1 0)), AV.e (EV.s (SV.d (Value.int IntKind.i64 now))), AV.e (EV.s (SV.d (Value.int IntKind.i64 tmo))), AV.e (EV.s (SV.d (Value.int IntKind.i64 (IntKind.i64.wrap (now + tmo))))), AV.tup [EV.s (SV.sl 6 4 0 (exP { L := L, now := now, ms := rowMi n (miF g), id := id, tmo := tmo : BSt } (IntKind.i64.wrap (now + tmo))).length 0), EV.s (SV.d (Value.int IntKind.i64 (exE { L := L, now := now, ms := rowMi n (miF g), id := id, tmo := tmo : BSt } (IntKind.i64.wrap (now + tmo)))))], AV.e (EV.s (SV.sl 6 4 0 (exP { L := L, now := now, ms := rowMi n (miF g), id := id, tmo := tmo : BSt } (IntKind.i64.wrap (now + tmo))).length 0)), AV.e (EV.s (SV.d (Value.int IntKind.i64 (exE { L := L, now := now, ms := rowMi n (miF g), id := id, tmo := tmo : BSt } (IntKind.i64.wrap (now + tmo)))))), AV.e (EV.s (SV.d (Value.int IntKind.i64 (exE { L := L, now := now, ms := rowMi n (miF g), id := id, tmo := tmo : BSt } (IntKind.i64.wrap (now + tmo)))))), AV.e (EV.s (SV.c (Value.bool false))), AV.e (EV.s (SV.d (vs 126))), AV.e (EV.s (SV.d (vs 127))), AV.e (EV.s (SV.d (vs 128))), AV.e (EV.s (SV.d (vs 129))), AV.e (EV.s (SV.d (vs 130))), AV.e (EV.s (SV.d (vs 131))), AV.e (EV.s (SV.d (vs 132))), AV.e (EV.s (SV.ptr 1 0)), AV.e (EV.s (SV.sl 8 15 0 (rowMi (exB { L := L, now := now, ms := rowMi n (miF g), id := id, tmo := tmo : BSt } (IntKind.i64.wrap (now + tmo))).ms.length (miG (exB { L := L, now := now, ms := rowMi n (miF g), id := id, tmo := tmo : BSt } (IntKind.i64.wrap (now + tmo))).ms)).length 0)), AV.e (EV.s (SV.d (Value.int IntKind.i64 (↑(rowMi (exB { L := L, now := now, ms := rowMi n (miF g), id := id, tmo := tmo : BSt } (IntKind.i64.wrap (now + tmo))).ms.length (miG (exB { L := L, now := now, ms := rowMi n (miF g), id := id, tmo := tmo : BSt } (IntKind.i64.wrap (now + tmo))).ms)).length : Int)))), AV.e (EV.s (SV.d (vs 136))), AV.e (EV.s (SV.d (vs 137))), AV.e (EV.s (SV.d (vs 138))), AV.e (EV.s (SV.d (vs 139))), AV.e (EV.s (SV.d (vs 140))), AV.e (EV.s (SV.d (vs 141))), AV.e (EV.s (SV.d (vs 142))), AV.e (EV.s (SV.d (vs 143))), AV.e (EV.s (SV.d (vs 144))), AV.e (EV.s (SV.d (vs 145))), AV.e (EV.s (SV.d (vs 146))), AV.e (EV.s (SV.d (vs 147))), AV.e (EV.s (SV.d (vs 148))), AV.e (EV.s (SV.d (vs 149))), AV.e (EV.s (SV.d (vs 150))), AV.e (EV.s (SV.d (vs 151))), AV.e (EV.s (SV.d (vs 152))), AV.e (EV.s (SV.d (vs 153))), AV.e (EV.s (SV.d (vs 154))), AV.e (EV.s (SV.d (vs 155))), AV.e (EV.s (SV.d (vs 156))), AV.e (EV.s (SV.d (vs 157))), AV.e (EV.s (SV.d (vs 158))), AV.e (EV.s (SV.d (vs 159))), AV.e (EV.s (SV.d (vs 160))), AV.e (EV.s (SV.d (vs 161))), AV.e (EV.s (SV.d (vs 162))), AV.e (EV.s (SV.d (vs 163))), AV.e (EV.s (SV.d (vs 164))), AV.e (EV.s (SV.d (vs 165))), AV.e (EV.s (SV.d (vs 166))), AV.e (EV.s (SV.d (vs 167))), AV.e (EV.s (SV.d (vs 168))), AV.e (EV.s (SV.d (vs 169))), AV.e (EV.s (SV.d (vs 170))), AV.e (EV.s (SV.d (vs 171))), AV.e (EV.s (SV.d (vs 172))), AV.e (EV.s (SV.d (vs 173))), AV.e (EV.s (SV.d (vs 174))), AV.e (EV.s (SV.d (vs 175))), AV.e (EV.s (SV.d (vs 176))), AV.e (EV.s (SV.d (vs 177))), AV.e (EV.s (SV.d (vs 178))), AV.e (EV.s (SV.d (vs 179))), AV.e (EV.s (SV.d (vs 180))), AV.e (EV.s (SV.d (vs 181))), AV.e (EV.s (SV.d (vs 182))), AV.e (EV.s (SV.d (vs 183))), AV.e (EV.s (SV.d (vs 184))), AV.e (EV.s (SV.d (vs 185))), AV.e (EV.s (SV.d (vs 186))), AV.e (EV.s (SV.d (vs 187))), AV.e (EV.s (SV.d (vs 188))), AV.e (EV.s (SV.d (vs 189))), AV.e (EV.s (SV.d (vs 190))), AV.e (EV.s (SV.d (vs 191))), AV.e (EV.s (SV.d (vs 192))), AV.e (EV.s (SV.d (vs 193))), AV.e (EV.s (SV.d (vs 194))), AV.e (EV.s (SV.d (vs 195))), AV.e (EV.s (SV.d (vs 196))), AV.e (EV.s (SV.d (vs 197))), AV.e (EV.s (SV.d (vs 198))), AV.e (EV.s (SV.d (vs 199))), AV.e (EV.s (SV.d (vs 200))), AV.e (EV.s (SV.d (vs 201))), AV.e (EV.s (SV.d (vs 202))), AV.e (EV.s (SV.d (vs 203))), AV.e (EV.s (SV.d (vs 204))), AV.e (EV.s (SV.d (vs 205))), AV.e (EV.s (SV.d (vs 206)))], H := [AB.ro 4 ns (sqF f), AB.cells 95 [SV.ptr 2 0, SV.d (Value.int IntKind.i64 (exB { L := L, now := now, ms := rowMi n (miF g), id := id, tmo := tmo : BSt } (IntKind.i64.wrap (now + tmo))).now), SV.sl 7 15 0 (rowMi (exB { L := L, now := now, ms := rowMi n (miF g), id := id, tmo := tmo : BSt } (IntKind.i64.wrap (now + tmo))).ms.length (miG (exB { L := L, now := now, ms := rowMi n (miF g), id := id, tmo := tmo : BSt } (IntKind.i64.wrap (now + tmo))).ms)).length 0, SV.d (Value.int IntKind.i64 (exB { L := L, now := now, ms := rowMi n (miF g), id := id, tmo := tmo : BSt } (IntKind.i64.wrap (now + tmo))).id), SV.d (Value.int IntKind.i64 (exB { L := L, now := now, ms := rowMi n (miF g), id := id, tmo := tmo : BSt } (IntKind.i64.wrap (now + tmo))).tmo)], AB.cells 86 [SV.d (Value.int IntKind.i64 (exB { L := L, now := now, ms := rowMi n (miF g), id := id, tmo := tmo : BSt } (IntKind.i64.wrap (now + tmo))).L.room), SV.d (Value.int IntKind.u64 (exB { L := L, now := now, ms := rowMi n (miF g), id := id, tmo := tmo : BSt } (IntKind.i64.wrap (now + tmo))).L.first), SV.d (Value.int IntKind.u64 (exB { L := L, now := now, ms := rowMi n (miF g), id := id, tmo := tmo : BSt } (IntKind.i64.wrap (now + tmo))).L.next), SV.d (Value.int IntKind.i64 (exB { L := L, now := now, ms := rowMi n (miF g), id := id, tmo := tmo : BSt } (IntKind.i64.wrap (now + tmo))).L.last), SV.mp 3], AB.pm (exB { L := L, now := now, ms := rowMi n (miF g), id := id, tmo := tmo : BSt } (IntKind.i64.wrap (now + tmo))).L.es, AB.dead, AB.dead, AB.row 36 4 (exP { L := L, now := now, ms := rowMi n (miF g), id := id, tmo := tmo : BSt } (IntKind.i64.wrap (now + tmo))).length (pkG (exP { L := L, now := now, ms := rowMi n (miF g), id := id, tmo := tmo : BSt } (IntKind.i64.wrap (now + tmo)))), AB.row 80 15 (rowMi (exB { L := L, now := now, ms := rowMi n (miF g), id := id, tmo := tmo : BSt } (IntKind.i64.wrap (now + tmo))).ms.length (miG (exB { L := L, now := now, ms := rowMi n (miF g), id := id, tmo := tmo : BSt } (IntKind.i64.wrap (now + tmo))).ms)).length (miG (rowMi (exB { L := L, now := now, ms := rowMi n (miF g), id := id, tmo := tmo : BSt } (IntKind.i64.wrap (now + tmo))).ms.length (miG (exB { L := L, now := now, ms := rowMi n (miF g), id := id, tmo := tmo : BSt } (IntKind.i64.wrap (now + tmo))).ms))), AB.row 80 15 (rowMi (exB { L := L, now := now, ms := rowMi n (miF g), id := id, tmo := tmo : BSt } (IntKind.i64.wrap (now + tmo))).ms.length (miG (exB { L := L, now := now, ms := rowMi n (miF g), id := id, tmo := tmo : BSt } (IntKind.i64.wrap (now + tmo))).ms)).length (miG (rowMi (exB { L := L, now := now, ms := rowMi n (miF g), id := id, tmo := tmo : BSt } (IntKind.i64.wrap (now + tmo))).ms.length (miG (exB { L := L, now := now, ms := rowMi n (miF g), id := id, tmo := tmo : BSt } (IntKind.i64.wrap (now + tmo))).ms)))] : St }
 (T.go [true, false, true] (t9k room first tmo ns z f L n g now id i vs)).kont))) := by kernel_rfl


def x9c (room many last j : Int) : List AV := [.d (.int .i64 room), .e (.s (.ptr 1 0)), .d (.int .i64 many), .d (.int .i64 last), .d (.int .i64 j)]

noncomputable def t9c (room : Int) (ns : Nat) (f : Nat → Sq) (L : LSt) (n : Nat) (g : Nat → Mi) (now id tmo : Int) (many last j : Int) (vs : Nat → Value) : T (Exit × List AV × Heap) := bodyT Try.prog e9 3 oN 1 (loopAt Try.prog 9 1) [0, 9, 25, 26, 27] 207 (x9c room many last j) (H9 ns f L n (miF g) now id tmo) vs

theorem t9c_eq (room : Int) (ns : Nat) (f : Nat → Sq) (L : LSt) (n : Nat) (g : Nat → Mi) (now id tmo : Int) (many last j : Int) (vs : Nat → Value) : t9c room ns f L n g now id tmo many last j vs =
    T.ite (decide (j < many))
 (T.need ((n = n ∧ MiRow n (miF g)) ∧ { L := L, now := now, ms := rowMi n (miF g), id := id, tmo := tmo : BSt }.Ok)
 (T.ite (decide (tkP { L := L, now := now, ms := rowMi n (miF g), id := id, tmo := tmo : BSt }))
 (T.ite (decide (((rowMi n (miF g)).getD 0 Mi.zero).id ≤ last))
 (T.ret
 (Exit.ret,
 [AV.e (EV.s (SV.d (Value.int IntKind.i64 room))), AV.e (EV.s (SV.ptr 1 0)),
 AV.e (EV.s (SV.d (Value.int IntKind.i64 many))), AV.e (EV.s (SV.d (Value.int IntKind.i64 last))),
 AV.e (EV.s (SV.d (Value.int IntKind.i64 j)))],
 [AB.ro 4 ns (sqF f),
 AB.cells 95
 [SV.ptr 2 0, SV.d (Value.int IntKind.i64 now), SV.sl 5 15 0 (rowMi n (miF g)).tail.length 0,
 SV.d (Value.int IntKind.i64 id), SV.d (Value.int IntKind.i64 tmo)],
 AB.cells 86
 [SV.d (Value.int IntKind.i64 L.room), SV.d (Value.int IntKind.u64 L.first),
 SV.d (Value.int IntKind.u64 L.next), SV.d (Value.int IntKind.i64 L.last), SV.mp 3],
 AB.pm L.es, AB.dead, AB.row 80 15 (rowMi n (miF g)).tail.length (miG (rowMi n (miF g)).tail),
 AB.cells 80
 [SV.d (Value.int IntKind.i64 ((rowMi n (miF g)).getD 0 Mi.zero).id),
 SV.d (Value.int IntKind.i64 ((rowMi n (miF g)).getD 0 Mi.zero).frm),
 SV.d (Value.int IntKind.i64 ((rowMi n (miF g)).getD 0 Mi.zero).to),
 SV.d (Value.int IntKind.i64 ((rowMi n (miF g)).getD 0 Mi.zero).sent),
 SV.d (Value.int IntKind.i64 ((rowMi n (miF g)).getD 0 Mi.zero).acked),
 SV.d (Value.int IntKind.i64 ((rowMi n (miF g)).getD 0 Mi.zero).lost),
 SV.d (Value.int IntKind.i64 ((rowMi n (miF g)).getD 0 Mi.zero).packets),
 SV.d (Value.int IntKind.i64 ((rowMi n (miF g)).getD 0 Mi.zero).hits),
 SV.d (Value.int IntKind.i64 ((rowMi n (miF g)).getD 0 Mi.zero).drops),
 SV.d (Value.int IntKind.i64 ((rowMi n (miF g)).getD 0 Mi.zero).n),
 SV.d (Value.int IntKind.i64 ((rowMi n (miF g)).getD 0 Mi.zero).sumT),
 SV.d (Value.int IntKind.i64 ((rowMi n (miF g)).getD 0 Mi.zero).sumR),
 SV.d (Value.int IntKind.i64 ((rowMi n (miF g)).getD 0 Mi.zero).sumTT),
 SV.d (Value.int IntKind.i64 ((rowMi n (miF g)).getD 0 Mi.zero).sumTR),
 SV.d (Value.int IntKind.i64 ((rowMi n (miF g)).getD 0 Mi.zero).sumRR)]]))
 (T.need True
 (T.ite (decide ((rowMi n (miF g)).getD 0 Mi.zero).DoneP)
 (T.ite
 (IntKind.i64.wrap (((rowMi n (miF g)).getD 0 Mi.zero).hits + ((rowMi n (miF g)).getD 0 Mi.zero).drops) !=
 ((rowMi n (miF g)).getD 0 Mi.zero).packets)
 (T.ret
 (Exit.ret,
 [AV.e (EV.s (SV.d (Value.int IntKind.i64 room))), AV.e (EV.s (SV.ptr 1 0)),
 AV.e (EV.s (SV.d (Value.int IntKind.i64 many))), AV.e (EV.s (SV.d (Value.int IntKind.i64 last))),
 AV.e (EV.s (SV.d (Value.int IntKind.i64 j)))],
 [AB.ro 4 ns (sqF f),
 AB.cells 95
 [SV.ptr 2 0, SV.d (Value.int IntKind.i64 now), SV.sl 5 15 0 (rowMi n (miF g)).tail.length 0,
 SV.d (Value.int IntKind.i64 id), SV.d (Value.int IntKind.i64 tmo)],
 AB.cells 86
 [SV.d (Value.int IntKind.i64 L.room), SV.d (Value.int IntKind.u64 L.first),
 SV.d (Value.int IntKind.u64 L.next), SV.d (Value.int IntKind.i64 L.last), SV.mp 3],
 AB.pm L.es, AB.dead, AB.row 80 15 (rowMi n (miF g)).tail.length (miG (rowMi n (miF g)).tail),
 AB.cells 80
 [SV.d (Value.int IntKind.i64 ((rowMi n (miF g)).getD 0 Mi.zero).id),
 SV.d (Value.int IntKind.i64 ((rowMi n (miF g)).getD 0 Mi.zero).frm),
 SV.d (Value.int IntKind.i64 ((rowMi n (miF g)).getD 0 Mi.zero).to),
 SV.d (Value.int IntKind.i64 ((rowMi n (miF g)).getD 0 Mi.zero).sent),
 SV.d (Value.int IntKind.i64 ((rowMi n (miF g)).getD 0 Mi.zero).acked),
 SV.d (Value.int IntKind.i64 ((rowMi n (miF g)).getD 0 Mi.zero).lost),
 SV.d (Value.int IntKind.i64 ((rowMi n (miF g)).getD 0 Mi.zero).packets),
 SV.d (Value.int IntKind.i64 ((rowMi n (miF g)).getD 0 Mi.zero).hits),
 SV.d (Value.int IntKind.i64 ((rowMi n (miF g)).getD 0 Mi.zero).drops),
 SV.d (Value.int IntKind.i64 ((rowMi n (miF g)).getD 0 Mi.zero).n),
 SV.d (Value.int IntKind.i64 ((rowMi n (miF g)).getD 0 Mi.zero).sumT),
 SV.d (Value.int IntKind.i64 ((rowMi n (miF g)).getD 0 Mi.zero).sumR),
 SV.d (Value.int IntKind.i64 ((rowMi n (miF g)).getD 0 Mi.zero).sumTT),
 SV.d (Value.int IntKind.i64 ((rowMi n (miF g)).getD 0 Mi.zero).sumTR),
 SV.d (Value.int IntKind.i64 ((rowMi n (miF g)).getD 0 Mi.zero).sumRR)]]))
 (T.ite
 (IntKind.i64.wrap
 (((rowMi n (miF g)).getD 0 Mi.zero).acked + ((rowMi n (miF g)).getD 0 Mi.zero).lost) !=
 ((rowMi n (miF g)).getD 0 Mi.zero).sent)
 (T.ret
 (Exit.ret,
 [AV.e (EV.s (SV.d (Value.int IntKind.i64 room))), AV.e (EV.s (SV.ptr 1 0)),
 AV.e (EV.s (SV.d (Value.int IntKind.i64 many))), AV.e (EV.s (SV.d (Value.int IntKind.i64 last))),
 AV.e (EV.s (SV.d (Value.int IntKind.i64 j)))],
 [AB.ro 4 ns (sqF f),
 AB.cells 95
 [SV.ptr 2 0, SV.d (Value.int IntKind.i64 now), SV.sl 5 15 0 (rowMi n (miF g)).tail.length 0,
 SV.d (Value.int IntKind.i64 id), SV.d (Value.int IntKind.i64 tmo)],
 AB.cells 86
 [SV.d (Value.int IntKind.i64 L.room), SV.d (Value.int IntKind.u64 L.first),
 SV.d (Value.int IntKind.u64 L.next), SV.d (Value.int IntKind.i64 L.last), SV.mp 3],
 AB.pm L.es, AB.dead, AB.row 80 15 (rowMi n (miF g)).tail.length (miG (rowMi n (miF g)).tail),
 AB.cells 80
 [SV.d (Value.int IntKind.i64 ((rowMi n (miF g)).getD 0 Mi.zero).id),
 SV.d (Value.int IntKind.i64 ((rowMi n (miF g)).getD 0 Mi.zero).frm),
 SV.d (Value.int IntKind.i64 ((rowMi n (miF g)).getD 0 Mi.zero).to),
 SV.d (Value.int IntKind.i64 ((rowMi n (miF g)).getD 0 Mi.zero).sent),
 SV.d (Value.int IntKind.i64 ((rowMi n (miF g)).getD 0 Mi.zero).acked),
 SV.d (Value.int IntKind.i64 ((rowMi n (miF g)).getD 0 Mi.zero).lost),
 SV.d (Value.int IntKind.i64 ((rowMi n (miF g)).getD 0 Mi.zero).packets),
 SV.d (Value.int IntKind.i64 ((rowMi n (miF g)).getD 0 Mi.zero).hits),
 SV.d (Value.int IntKind.i64 ((rowMi n (miF g)).getD 0 Mi.zero).drops),
 SV.d (Value.int IntKind.i64 ((rowMi n (miF g)).getD 0 Mi.zero).n),
 SV.d (Value.int IntKind.i64 ((rowMi n (miF g)).getD 0 Mi.zero).sumT),
 SV.d (Value.int IntKind.i64 ((rowMi n (miF g)).getD 0 Mi.zero).sumR),
 SV.d (Value.int IntKind.i64 ((rowMi n (miF g)).getD 0 Mi.zero).sumTT),
 SV.d (Value.int IntKind.i64 ((rowMi n (miF g)).getD 0 Mi.zero).sumTR),
 SV.d (Value.int IntKind.i64 ((rowMi n (miF g)).getD 0 Mi.zero).sumRR)]]))
 (T.ret
 (Exit.normal,
 [AV.e (EV.s (SV.d (Value.int IntKind.i64 room))), AV.e (EV.s (SV.ptr 1 0)),
 AV.e (EV.s (SV.d (Value.int IntKind.i64 many))),
 AV.e (EV.s (SV.d (Value.int IntKind.i64 ((rowMi n (miF g)).getD 0 Mi.zero).id))),
 AV.e (EV.s (SV.d (Value.int IntKind.i64 (IntKind.i64.wrap (j + 1)))))],
 [AB.ro 4 ns (sqF f),
 AB.cells 95
 [SV.ptr 2 0, SV.d (Value.int IntKind.i64 now), SV.sl 5 15 0 (rowMi n (miF g)).tail.length 0,
 SV.d (Value.int IntKind.i64 id), SV.d (Value.int IntKind.i64 tmo)],
 AB.cells 86
 [SV.d (Value.int IntKind.i64 L.room), SV.d (Value.int IntKind.u64 L.first),
 SV.d (Value.int IntKind.u64 L.next), SV.d (Value.int IntKind.i64 L.last), SV.mp 3],
 AB.pm L.es, AB.dead, AB.row 80 15 (rowMi n (miF g)).tail.length (miG (rowMi n (miF g)).tail),
 AB.cells 80
 [SV.d (Value.int IntKind.i64 ((rowMi n (miF g)).getD 0 Mi.zero).id),
 SV.d (Value.int IntKind.i64 ((rowMi n (miF g)).getD 0 Mi.zero).frm),
 SV.d (Value.int IntKind.i64 ((rowMi n (miF g)).getD 0 Mi.zero).to),
 SV.d (Value.int IntKind.i64 ((rowMi n (miF g)).getD 0 Mi.zero).sent),
 SV.d (Value.int IntKind.i64 ((rowMi n (miF g)).getD 0 Mi.zero).acked),
 SV.d (Value.int IntKind.i64 ((rowMi n (miF g)).getD 0 Mi.zero).lost),
 SV.d (Value.int IntKind.i64 ((rowMi n (miF g)).getD 0 Mi.zero).packets),
 SV.d (Value.int IntKind.i64 ((rowMi n (miF g)).getD 0 Mi.zero).hits),
 SV.d (Value.int IntKind.i64 ((rowMi n (miF g)).getD 0 Mi.zero).drops),
 SV.d (Value.int IntKind.i64 ((rowMi n (miF g)).getD 0 Mi.zero).n),
 SV.d (Value.int IntKind.i64 ((rowMi n (miF g)).getD 0 Mi.zero).sumT),
 SV.d (Value.int IntKind.i64 ((rowMi n (miF g)).getD 0 Mi.zero).sumR),
 SV.d (Value.int IntKind.i64 ((rowMi n (miF g)).getD 0 Mi.zero).sumTT),
 SV.d (Value.int IntKind.i64 ((rowMi n (miF g)).getD 0 Mi.zero).sumTR),
 SV.d (Value.int IntKind.i64 ((rowMi n (miF g)).getD 0 Mi.zero).sumRR)]]))))
 (T.ret
 (Exit.ret,
 [AV.e (EV.s (SV.d (Value.int IntKind.i64 room))), AV.e (EV.s (SV.ptr 1 0)),
 AV.e (EV.s (SV.d (Value.int IntKind.i64 many))), AV.e (EV.s (SV.d (Value.int IntKind.i64 last))),
 AV.e (EV.s (SV.d (Value.int IntKind.i64 j)))],
 [AB.ro 4 ns (sqF f),
 AB.cells 95
 [SV.ptr 2 0, SV.d (Value.int IntKind.i64 now), SV.sl 5 15 0 (rowMi n (miF g)).tail.length 0,
 SV.d (Value.int IntKind.i64 id), SV.d (Value.int IntKind.i64 tmo)],
 AB.cells 86
 [SV.d (Value.int IntKind.i64 L.room), SV.d (Value.int IntKind.u64 L.first),
 SV.d (Value.int IntKind.u64 L.next), SV.d (Value.int IntKind.i64 L.last), SV.mp 3],
 AB.pm L.es, AB.dead, AB.row 80 15 (rowMi n (miF g)).tail.length (miG (rowMi n (miF g)).tail),
 AB.cells 80
 [SV.d (Value.int IntKind.i64 ((rowMi n (miF g)).getD 0 Mi.zero).id),
 SV.d (Value.int IntKind.i64 ((rowMi n (miF g)).getD 0 Mi.zero).frm),
 SV.d (Value.int IntKind.i64 ((rowMi n (miF g)).getD 0 Mi.zero).to),
 SV.d (Value.int IntKind.i64 ((rowMi n (miF g)).getD 0 Mi.zero).sent),
 SV.d (Value.int IntKind.i64 ((rowMi n (miF g)).getD 0 Mi.zero).acked),
 SV.d (Value.int IntKind.i64 ((rowMi n (miF g)).getD 0 Mi.zero).lost),
 SV.d (Value.int IntKind.i64 ((rowMi n (miF g)).getD 0 Mi.zero).packets),
 SV.d (Value.int IntKind.i64 ((rowMi n (miF g)).getD 0 Mi.zero).hits),
 SV.d (Value.int IntKind.i64 ((rowMi n (miF g)).getD 0 Mi.zero).drops),
 SV.d (Value.int IntKind.i64 ((rowMi n (miF g)).getD 0 Mi.zero).n),
 SV.d (Value.int IntKind.i64 ((rowMi n (miF g)).getD 0 Mi.zero).sumT),
 SV.d (Value.int IntKind.i64 ((rowMi n (miF g)).getD 0 Mi.zero).sumR),
 SV.d (Value.int IntKind.i64 ((rowMi n (miF g)).getD 0 Mi.zero).sumTT),
 SV.d (Value.int IntKind.i64 ((rowMi n (miF g)).getD 0 Mi.zero).sumTR),
 SV.d (Value.int IntKind.i64 ((rowMi n (miF g)).getD 0 Mi.zero).sumRR)]])))))
 (T.ret
 (Exit.ret,
 [AV.e (EV.s (SV.d (Value.int IntKind.i64 room))), AV.e (EV.s (SV.ptr 1 0)),
 AV.e (EV.s (SV.d (Value.int IntKind.i64 many))), AV.e (EV.s (SV.d (Value.int IntKind.i64 last))),
 AV.e (EV.s (SV.d (Value.int IntKind.i64 j)))],
 [AB.ro 4 ns (sqF f),
 AB.cells 95
 [SV.ptr 2 0, SV.d (Value.int IntKind.i64 now), SV.sl 5 15 0 (rowMi n (miF g)).length 0,
 SV.d (Value.int IntKind.i64 id), SV.d (Value.int IntKind.i64 tmo)],
 AB.cells 86
 [SV.d (Value.int IntKind.i64 L.room), SV.d (Value.int IntKind.u64 L.first),
 SV.d (Value.int IntKind.u64 L.next), SV.d (Value.int IntKind.i64 L.last), SV.mp 3],
 AB.pm L.es, AB.dead, AB.row 80 15 (rowMi n (miF g)).length (miG (rowMi n (miF g))),
 AB.cells 80
 [SV.d (Value.int IntKind.i64 0), SV.d (Value.int IntKind.i64 0), SV.d (Value.int IntKind.i64 0),
 SV.d (Value.int IntKind.i64 0), SV.d (Value.int IntKind.i64 0), SV.d (Value.int IntKind.i64 0),
 SV.d (Value.int IntKind.i64 0), SV.d (Value.int IntKind.i64 0), SV.d (Value.int IntKind.i64 0),
 SV.d (Value.int IntKind.i64 0), SV.d (Value.int IntKind.i64 0), SV.d (Value.int IntKind.i64 0),
 SV.d (Value.int IntKind.i64 0), SV.d (Value.int IntKind.i64 0), SV.d (Value.int IntKind.i64 0)]]))))
 (T.ret
 (Exit.exit 3,
 [AV.e (EV.s (SV.d (Value.int IntKind.i64 room))), AV.e (EV.s (SV.ptr 1 0)),
 AV.e (EV.s (SV.d (Value.int IntKind.i64 many))), AV.e (EV.s (SV.d (Value.int IntKind.i64 last))),
 AV.e (EV.s (SV.d (Value.int IntKind.i64 j)))],
 [AB.ro 4 ns (sqF f),
 AB.cells 95
 [SV.ptr 2 0, SV.d (Value.int IntKind.i64 now), SV.sl 4 15 0 n 0, SV.d (Value.int IntKind.i64 id),
 SV.d (Value.int IntKind.i64 tmo)],
 AB.cells 86
 [SV.d (Value.int IntKind.i64 L.room), SV.d (Value.int IntKind.u64 L.first),
 SV.d (Value.int IntKind.u64 L.next), SV.d (Value.int IntKind.i64 L.last), SV.mp 3],
 AB.pm L.es, AB.row 80 15 n (miF g)])) := by kernel_rfl


noncomputable def t9e (room first tmo : Int) (ns z : Nat) (f : Nat → Sq) (L : LSt) (n : Nat) (g : Nat → Mi) (now id : Int) (i : Int) (vs : Nat → Value) (L2 : LSt) (n2 : Nat) (g2 : Nat → Mi) (now2 id2 tmo2 many last j : Int) (vs2 : Nat → Value) : T (AV × Heap) := ((t9k room first tmo ns z f L n g now id i vs).go [true, false, true]).kont (.exit 3) ⟨fat [0, 9, 25, 26, 27] vs2 (x9c room many last j) 207 0, H9 ns f L2 n2 (miF g2) now2 id2 tmo2⟩

theorem t9e_eq (room first tmo : Int) (ns z : Nat) (f : Nat → Sq) (L : LSt) (n : Nat) (g : Nat → Mi) (now id : Int) (i : Int) (vs : Nat → Value) (L2 : LSt) (n2 : Nat) (g2 : Nat → Mi) (now2 id2 tmo2 many last j : Int) (vs2 : Nat → Value) : t9e room first tmo ns z f L n g now id i vs L2 n2 g2 now2 id2 tmo2 many last j vs2 =
    T.need
 ((n2 = n2 ∧ MiRow n2 (miF g2)) ∧ { L := L2, now := now2, ms := rowMi n2 (miF g2), id := id2, tmo := tmo2 : BSt }.Ok)
 (T.ite (decide (tkP { L := L2, now := now2, ms := rowMi n2 (miF g2), id := id2, tmo := tmo2 : BSt }))
 (T.ret (AV.e (EV.s (SV.c (Value.bool false))), [AB.ro 4 ns (sqF f)]))
 (T.ite (IntKind.i64.wrap (L2.room - (↑L2.es.length : Int)) == room)
 (T.ite (many == 0) (T.ret (AV.e (EV.s (SV.c (Value.bool true))), [AB.ro 4 ns (sqF f)]))
 (T.need
 (((rowMi n2 (miF g2)).length = (rowMi n2 (miF g2)).length ∧
 MiRow (rowMi n2 (miF g2)).length (miG (rowMi n2 (miF g2)))) ∧
 { L := L2, now := now2, ms := rowMi (rowMi n2 (miF g2)).length (miG (rowMi n2 (miF g2))), id := id2, tmo := tmo2 : BSt }.Ok ∧
 anyB
 { L := L2, now := now2, ms := rowMi (rowMi n2 (miF g2)).length (miG (rowMi n2 (miF g2))), id := id2, tmo := tmo2 : BSt })
 (T.ite ((↑(rowMi (rowMi n2 (miF g2)).length (miG (rowMi n2 (miF g2)))).length : Int) == 1)
 (T.ret (AV.e (EV.s (SV.c (Value.bool true))), [AB.ro 4 ns (sqF f)]))
 (T.ret (AV.e (EV.s (SV.c (Value.bool false))), [AB.ro 4 ns (sqF f)])))))
 (T.ret (AV.e (EV.s (SV.c (Value.bool false))), [AB.ro 4 ns (sqF f)])))) := by kernel_rfl


theorem kl9 : codeB oN (loopAt Try.prog 9 0) = true := by kernel_rfl
theorem kl9c : codeB oN (loopAt Try.prog 9 1) = true := by kernel_rfl

end Go.Proofs.Ythckkoledhjmeaa.Ev
