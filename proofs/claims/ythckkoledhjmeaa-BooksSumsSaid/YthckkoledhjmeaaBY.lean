/-
  The abstract evaluator's trees: Expire, the program's and the document's.
-/
import Derived.Test.YthckkoledhjmeaaBX
namespace Go.Proofs.Ythckkoledhjmeaa.Ev
open Go

def e36 : List (Nat × Ent) := [(36, .body o36 0), (56, .body oN 0), (81, .body oN 0), (17, .summ s17), (63, .body oN 0)]

noncomputable def t36 (L : LSt) (n : Nat) (f : Nat → Mi) (now id tmo at' : Int) : T (AV × Heap) := callT Try.prog (entL e36) 3 36 [.e (.s (.ptr 0 0)), .d (.int .i64 at')] (bH L n (miF f) now id tmo) fun r H' => .ret (r, H')

theorem t36_eq (L : LSt) (n : Nat) (f : Nat → Mi) (now id tmo at' : Int) : t36 L n f now id tmo at' =
 T.ite (decide (at' < now))
 (T.ret
 (AV.tup [EV.s (SV.c (Value.slice none 0 0)), EV.s (SV.c (Value.int IntKind.i64 10))],
 [AB.cells 95
 [SV.ptr 1 0, SV.d (Value.int IntKind.i64 now), SV.sl 3 15 0 n 0, SV.d (Value.int IntKind.i64 id),
 SV.d (Value.int IntKind.i64 tmo)],
 AB.cells 86
 [SV.d (Value.int IntKind.i64 L.room), SV.d (Value.int IntKind.u64 L.first),
 SV.d (Value.int IntKind.u64 L.next), SV.d (Value.int IntKind.i64 L.last), SV.mp 2],
 AB.pm L.es, AB.row 80 15 n (miF f)]))
 (T.ite (decide (at' > 1099511627776))
 (T.ret
 (AV.tup [EV.s (SV.c (Value.slice none 0 0)), EV.s (SV.c (Value.int IntKind.i64 10))],
 [AB.cells 95
 [SV.ptr 1 0, SV.d (Value.int IntKind.i64 now), SV.sl 3 15 0 n 0, SV.d (Value.int IntKind.i64 id),
 SV.d (Value.int IntKind.i64 tmo)],
 AB.cells 86
 [SV.d (Value.int IntKind.i64 L.room), SV.d (Value.int IntKind.u64 L.first),
 SV.d (Value.int IntKind.u64 L.next), SV.d (Value.int IntKind.i64 L.last), SV.mp 2],
 AB.pm L.es, AB.row 80 15 n (miF f)]))
 (T.need (L.Ok ∧ I64 at' ∧ I64 tmo)
 (T.call 64
 [AV.e (EV.s (SV.ptr 0 0)), AV.e (EV.agg [SV.fn 85 []]), AV.e (EV.s (SV.sl 4 4 0 (expP L at' tmo).length 0))]
 [AB.cells 95
 [SV.ptr 1 0, SV.d (Value.int IntKind.i64 at'), SV.sl 3 15 0 n 0, SV.d (Value.int IntKind.i64 id),
 SV.d (Value.int IntKind.i64 tmo)],
 AB.cells 86
 [SV.d (Value.int IntKind.i64 (expL L at' tmo).room), SV.d (Value.int IntKind.u64 (expL L at' tmo).first),
 SV.d (Value.int IntKind.u64 (expL L at' tmo).next), SV.d (Value.int IntKind.i64 (expL L at' tmo).last),
 SV.mp 2],
 AB.pm (expL L at' tmo).es, AB.row 80 15 n (miF f), AB.row 36 4 (expP L at' tmo).length (pkG (expP L at' tmo))]
 (T.go [false, false, true] (t36 L n f now id tmo at')).kontC))) := by kernel_rfl


noncomputable def t36k (L : LSt) (n : Nat) (f : Nat → Mi) (now id tmo at' : Int) (f' : Nat → Mi) : T (AV × Heap) := ((t36 L n f now id tmo at').go [false, false, true]).kontC (.d (.int .i64 0)) (bH (expL L at' tmo) n (miF f') at' id tmo ++ [.row 36 4 (expP L at' tmo).length (pkG (expP L at' tmo))])

theorem t36k_eq (L : LSt) (n : Nat) (f : Nat → Mi) (now id tmo at' : Int) (f' : Nat → Mi) : t36k L n f now id tmo at' f' =
 T.ret
 (AV.tup [EV.s (SV.sl 4 4 0 (expP L at' tmo).length 0), EV.s (SV.d (Value.int IntKind.i64 0))],
 [AB.cells 95
 [SV.ptr 1 0, SV.d (Value.int IntKind.i64 at'), SV.sl 3 15 0 n 0, SV.d (Value.int IntKind.i64 id),
 SV.d (Value.int IntKind.i64 tmo)],
 AB.cells 86
 [SV.d (Value.int IntKind.i64 (expL L at' tmo).room), SV.d (Value.int IntKind.u64 (expL L at' tmo).first),
 SV.d (Value.int IntKind.u64 (expL L at' tmo).next), SV.d (Value.int IntKind.i64 (expL L at' tmo).last),
 SV.mp 2],
 AB.pm (expL L at' tmo).es, AB.row 80 15 n (miF f'), AB.row 36 4 (expP L at' tmo).length (pkG (expP L at' tmo))]) := by kernel_rfl


def e54 : List (Nat × Ent) := [(54, .body o54 0), (72, .body oN 0), (40, .body oN 0), (18, .summ s18), (78, .summ s78), (79, .summ (sure sLose)), (74, .summ s74)]

def rH4' (L : LSt) (k : Nat) (pg : Nat → List Value) (n : Nat) (g : Nat → List Value) (now id tmo : Int) (m : Nat) (q : Nat → List Value) : Heap :=
  [.cells 72 [.ptr 1 0, .sl 5 15 0 n 0, .d (.int .i64 id), .d (.int .i64 tmo), .d (.int .i64 now)], .cells 44 (rc L 4 k), .dead, .dead, .row 36 4 k pg, .row 80 15 n g, .row 36 4 m q]

def x54 (at' : Int) (m : Nat) (i : Int) : List AV := [.e (.s (.ptr 0 0)), .d (.int .i64 at'), .e (.s (.sl 6 4 0 m 0)), .d (.int .i64 i)]

noncomputable def t54 (L : LSt) (k : Nat) (pg : Nat → List Value) (n : Nat) (f : Nat → Mi) (now id tmo at' : Int) : T (AV × Heap) := callT Try.prog (entL e54) 3 54 [.e (.s (.ptr 0 0)), .d (.int .i64 at')] (rH L k pg n (miF f) now id tmo) fun r H' => .ret (r, H')

theorem t54_eq (L : LSt) (k : Nat) (pg : Nat → List Value) (n : Nat) (f : Nat → Mi) (now id tmo at' : Int) : t54 L k pg n f now id tmo at' =
 T.ite (decide (at' ≥ 0))
 (T.ite (decide (at' ≤ 1099511627776))
 (T.ite (decide (at' < now))
 (T.ret
 (AV.tup [EV.s (SV.c (Value.slice none 0 0)), EV.s (SV.c (Value.int IntKind.i64 10))],
 [AB.cells 72
 [SV.ptr 1 0, SV.sl 3 15 0 n 0, SV.d (Value.int IntKind.i64 id), SV.d (Value.int IntKind.i64 tmo),
 SV.d (Value.int IntKind.i64 now)],
 AB.cells 44
 [SV.d (Value.int IntKind.i64 L.room), SV.d (Value.int IntKind.u64 L.first),
 SV.d (Value.int IntKind.u64 L.next), SV.d (Value.int IntKind.i64 L.last), SV.sl 2 4 0 k 0],
 AB.row 36 4 k pg, AB.row 80 15 n (miF f)]))
 (T.need
 ((k = k ∧ PkRow k pg) ∧
 { room := L.room, first := L.first, next := L.next, last := L.last, es := rowPk k pg : LSt }.Ok ∧
 I64 at' ∧ I64 tmo)
 (T.code 4 (loopAt Try.prog 54 0).loop
 { fr := [AV.e (EV.s (SV.ptr 0 0)), AV.e (EV.s (SV.d (Value.int IntKind.i64 at'))), AV.tup [], AV.tup [], AV.e (EV.s (SV.c (Value.slice none 0 0))), AV.e (EV.s (SV.c (Value.int IntKind.i64 0))), AV.e (EV.s (SV.sl 5 4 0 (expP { room := L.room, first := L.first, next := L.next, last := L.last, es := rowPk k pg : LSt } at' tmo).length 0)), AV.e (EV.s (SV.c (Value.int IntKind.i64 0))), AV.tup [], AV.tup [], AV.e (EV.s (SV.ptr 0 0)), AV.e (EV.s (SV.d (Value.int IntKind.i64 at'))), AV.e (EV.s (SV.c (Value.bool false))), AV.e (EV.s (SV.ptr 0 0)), AV.e (EV.s (SV.ptr 0 0)), AV.e (EV.s (SV.ptr 0 0)), AV.e (EV.s (SV.ptr 1 0)), AV.e (EV.s (SV.d (Value.int IntKind.i64 at'))), AV.e (EV.s (SV.ptr 0 0)), AV.e (EV.s (SV.ptr 0 0)), AV.e (EV.s (SV.ptr 0 3)), AV.e (EV.s (SV.d (Value.int IntKind.i64 tmo))), AV.e (EV.s (SV.sl 5 4 0 (expP { room := L.room, first := L.first, next := L.next, last := L.last, es := rowPk k pg : LSt } at' tmo).length 0)), AV.tup [], AV.tup [], AV.tup [], AV.tup [], AV.tup [], AV.tup [], AV.tup [], AV.tup [], AV.tup [], AV.tup [], AV.tup [], AV.tup [], AV.tup [], AV.tup [], AV.tup [], AV.tup [], AV.tup [], AV.tup [], AV.tup [], AV.tup [], AV.tup [], AV.tup [], AV.tup [], AV.tup [], AV.tup [], AV.tup [], AV.tup [], AV.tup [], AV.tup [], AV.tup []], H := [AB.cells 72 [SV.ptr 1 0, SV.sl 3 15 0 n 0, SV.d (Value.int IntKind.i64 id), SV.d (Value.int IntKind.i64 tmo), SV.d (Value.int IntKind.i64 now)], AB.cells 44 [SV.d (Value.int IntKind.i64 (expL { room := L.room, first := L.first, next := L.next, last := L.last, es := rowPk k pg : LSt } at' tmo).room), SV.d (Value.int IntKind.u64 (expL { room := L.room, first := L.first, next := L.next, last := L.last, es := rowPk k pg : LSt } at' tmo).first), SV.d (Value.int IntKind.u64 (expL { room := L.room, first := L.first, next := L.next, last := L.last, es := rowPk k pg : LSt } at' tmo).next), SV.d (Value.int IntKind.i64 (expL { room := L.room, first := L.first, next := L.next, last := L.last, es := rowPk k pg : LSt } at' tmo).last), SV.sl 4 4 0 (expL { room := L.room, first := L.first, next := L.next, last := L.last, es := rowPk k pg : LSt } at' tmo).es.length 0], AB.dead, AB.row 80 15 n (miF f), AB.row 36 4 (expL { room := L.room, first := L.first, next := L.next, last := L.last, es := rowPk k pg : LSt } at' tmo).es.length (pkG (expL { room := L.room, first := L.first, next := L.next, last := L.last, es := rowPk k pg : LSt } at' tmo).es), AB.row 36 4 (expP { room := L.room, first := L.first, next := L.next, last := L.last, es := rowPk k pg : LSt } at' tmo).length (pkG (expP { room := L.room, first := L.first, next := L.next, last := L.last, es := rowPk k pg : LSt } at' tmo))] : St }
 (T.go [true, true, false, true] (t54 L k pg n f now id tmo at')).kont)))
 (T.ret
 (AV.tup [EV.s (SV.c (Value.slice none 0 0)), EV.s (SV.c (Value.int IntKind.i64 10))],
 [AB.cells 72
 [SV.ptr 1 0, SV.sl 3 15 0 n 0, SV.d (Value.int IntKind.i64 id), SV.d (Value.int IntKind.i64 tmo),
 SV.d (Value.int IntKind.i64 now)],
 AB.cells 44
 [SV.d (Value.int IntKind.i64 L.room), SV.d (Value.int IntKind.u64 L.first),
 SV.d (Value.int IntKind.u64 L.next), SV.d (Value.int IntKind.i64 L.last), SV.sl 2 4 0 k 0],
 AB.row 36 4 k pg, AB.row 80 15 n (miF f)])))
 (T.ret
 (AV.tup [EV.s (SV.c (Value.slice none 0 0)), EV.s (SV.c (Value.int IntKind.i64 10))],
 [AB.cells 72
 [SV.ptr 1 0, SV.sl 3 15 0 n 0, SV.d (Value.int IntKind.i64 id), SV.d (Value.int IntKind.i64 tmo),
 SV.d (Value.int IntKind.i64 now)],
 AB.cells 44
 [SV.d (Value.int IntKind.i64 L.room), SV.d (Value.int IntKind.u64 L.first),
 SV.d (Value.int IntKind.u64 L.next), SV.d (Value.int IntKind.i64 L.last), SV.sl 2 4 0 k 0],
 AB.row 36 4 k pg, AB.row 80 15 n (miF f)])) := by kernel_rfl


noncomputable def t54b (L : LSt) (k : Nat) (pg : Nat → List Value) (n : Nat) (f : Nat → Mi) (now id tmo at' : Int) (m : Nat) (q : Nat → Pkt) (i : Int) (vs : Nat → Value) : T (Exit × List AV × Heap) := bodyT Try.prog e54 2 o54 4 (loopAt Try.prog 54 0) [0, 1, 6, 7] 53 (x54 at' m i) (rH4' L k pg n (miF f) now id tmo m (pkF q)) vs

theorem t54b_eq (L : LSt) (k : Nat) (pg : Nat → List Value) (n : Nat) (f : Nat → Mi) (now id tmo at' : Int) (m : Nat) (q : Nat → Pkt) (i : Int) (vs : Nat → Value) : t54b L k pg n f now id tmo at' m q i vs =
 T.ite (decide (i < (↑m : Int)))
 (T.need (0 ≤ i ∧ i < (↑m : Int))
 (T.need (0 + i.toNat < m)
 (T.need (0 ≤ i ∧ i < (↑m : Int))
 (T.need (0 + i.toNat < m)
 ((T.need (((n = n ∧ MiRow n (miF f)) ∧ k = k ∧ PkRow k pg) ∧ (rowMi n (miF f)).length ≤ 64)
 (T.need (some (AB.row 36 4 m (pkF q)) = some (AB.row 36 4 m (pkF q)))
 ((T.need ((loseE (ofM (rowMi n (miF f)) (q (0 + i.toNat)).mi) (q (0 + i.toNat)).size == 0) = true)
 (T.need
 ((((rowMi n (miF f)).length = (rowMi n (miF f)).length ∧
 MiRow (rowMi n (miF f)).length (miG (rowMi n (miF f)))) ∧
 (rowPk k pg).length = (rowPk k pg).length ∧
 PkRow (rowPk k pg).length (pkG (rowPk k pg))) ∧
 (rowMi (rowMi n (miF f)).length (miG (rowMi n (miF f)))).length ≤ 64)
 (T.ret
 (Exit.normal,
 [AV.e (EV.s (SV.ptr 0 0)), AV.e (EV.s (SV.d (Value.int IntKind.i64 at'))),
 AV.e (EV.s (SV.sl 6 4 0 m 0)),
 AV.e (EV.s (SV.d (Value.int IntKind.i64 (IntKind.i64.wrap (i + 1)))))],
 [AB.cells 72
 [SV.ptr 1 0,
 SV.sl 11 15 0
 (putM (rowMi (rowMi n (miF f)).length (miG (rowMi n (miF f))))
 (loseM (ofM (rowMi n (miF f)) (q (0 + i.toNat)).mi)
 (q (0 + i.toNat)).size)).length
 0,
 SV.d (Value.int IntKind.i64 id), SV.d (Value.int IntKind.i64 tmo),
 SV.d (Value.int IntKind.i64 now)],
 AB.cells 44
 [SV.d (Value.int IntKind.i64 L.room), SV.d (Value.int IntKind.u64 L.first),
 SV.d (Value.int IntKind.u64 L.next), SV.d (Value.int IntKind.i64 L.last),
 SV.sl 10 4 0 (rowPk (rowPk k pg).length (pkG (rowPk k pg))).length 0],
 AB.dead, AB.dead, AB.dead, AB.dead, AB.row 36 4 m (pkF q), AB.dead, AB.dead,
 AB.cells 80
 [SV.d
 (Value.int IntKind.i64
 (loseM (ofM (rowMi n (miF f)) (q (0 + i.toNat)).mi) (q (0 + i.toNat)).size).id),
 SV.d
 (Value.int IntKind.i64
 (loseM (ofM (rowMi n (miF f)) (q (0 + i.toNat)).mi)
 (q (0 + i.toNat)).size).frm),
 SV.d
 (Value.int IntKind.i64
 (loseM (ofM (rowMi n (miF f)) (q (0 + i.toNat)).mi) (q (0 + i.toNat)).size).to),
 SV.d
 (Value.int IntKind.i64
 (loseM (ofM (rowMi n (miF f)) (q (0 + i.toNat)).mi)
 (q (0 + i.toNat)).size).sent),
 SV.d
 (Value.int IntKind.i64
 (loseM (ofM (rowMi n (miF f)) (q (0 + i.toNat)).mi)
 (q (0 + i.toNat)).size).acked),
 SV.d
 (Value.int IntKind.i64
 (loseM (ofM (rowMi n (miF f)) (q (0 + i.toNat)).mi)
 (q (0 + i.toNat)).size).lost),
 SV.d
 (Value.int IntKind.i64
 (loseM (ofM (rowMi n (miF f)) (q (0 + i.toNat)).mi)
 (q (0 + i.toNat)).size).packets),
 SV.d
 (Value.int IntKind.i64
 (loseM (ofM (rowMi n (miF f)) (q (0 + i.toNat)).mi)
 (q (0 + i.toNat)).size).hits),
 SV.d
 (Value.int IntKind.i64
 (loseM (ofM (rowMi n (miF f)) (q (0 + i.toNat)).mi)
 (q (0 + i.toNat)).size).drops),
 SV.d
 (Value.int IntKind.i64
 (loseM (ofM (rowMi n (miF f)) (q (0 + i.toNat)).mi) (q (0 + i.toNat)).size).n),
 SV.d
 (Value.int IntKind.i64
 (loseM (ofM (rowMi n (miF f)) (q (0 + i.toNat)).mi)
 (q (0 + i.toNat)).size).sumT),
 SV.d
 (Value.int IntKind.i64
 (loseM (ofM (rowMi n (miF f)) (q (0 + i.toNat)).mi)
 (q (0 + i.toNat)).size).sumR),
 SV.d
 (Value.int IntKind.i64
 (loseM (ofM (rowMi n (miF f)) (q (0 + i.toNat)).mi)
 (q (0 + i.toNat)).size).sumTT),
 SV.d
 (Value.int IntKind.i64
 (loseM (ofM (rowMi n (miF f)) (q (0 + i.toNat)).mi)
 (q (0 + i.toNat)).size).sumTR),
 SV.d
 (Value.int IntKind.i64
 (loseM (ofM (rowMi n (miF f)) (q (0 + i.toNat)).mi)
 (q (0 + i.toNat)).size).sumRR)],
 AB.row 36 4 (rowPk (rowPk k pg).length (pkG (rowPk k pg))).length
 (pkG (rowPk (rowPk k pg).length (pkG (rowPk k pg)))),
 AB.row 80 15
 (putM (rowMi (rowMi n (miF f)).length (miG (rowMi n (miF f))))
 (loseM (ofM (rowMi n (miF f)) (q (0 + i.toNat)).mi)
 (q (0 + i.toNat)).size)).length
 (miG
 (putM (rowMi (rowMi n (miF f)).length (miG (rowMi n (miF f))))
 (loseM (ofM (rowMi n (miF f)) (q (0 + i.toNat)).mi)
 (q (0 + i.toNat)).size)))])))).both
 (T.need (some (AB.row 36 4 m (pkF q)) = some (AB.row 36 4 m (pkF q)))
 (T.need ((loseE (ofM (rowMi n (miF f)) (q (0 + i.toNat)).mi) (q (0 + i.toNat)).size == 0) = true)
 (T.need
 ((((rowMi n (miF f)).length = (rowMi n (miF f)).length ∧
 MiRow (rowMi n (miF f)).length (miG (rowMi n (miF f)))) ∧
 (rowPk k pg).length = (rowPk k pg).length ∧
 PkRow (rowPk k pg).length (pkG (rowPk k pg))) ∧
 (rowMi (rowMi n (miF f)).length (miG (rowMi n (miF f)))).length ≤ 64)
 (T.ret
 (Exit.normal,
 [AV.e (EV.s (SV.ptr 0 0)), AV.e (EV.s (SV.d (Value.int IntKind.i64 at'))),
 AV.e (EV.s (SV.sl 6 4 0 m 0)),
 AV.e (EV.s (SV.d (Value.int IntKind.i64 (IntKind.i64.wrap (i + 1)))))],
 [AB.cells 72
 [SV.ptr 1 0,
 SV.sl 11 15 0
 (putM (rowMi (rowMi n (miF f)).length (miG (rowMi n (miF f))))
 (loseM (ofM (rowMi n (miF f)) (q (0 + i.toNat)).mi)
 (q (0 + i.toNat)).size)).length
 0,
 SV.d (Value.int IntKind.i64 id), SV.d (Value.int IntKind.i64 tmo),
 SV.d (Value.int IntKind.i64 now)],
 AB.cells 44
 [SV.d (Value.int IntKind.i64 L.room), SV.d (Value.int IntKind.u64 L.first),
 SV.d (Value.int IntKind.u64 L.next), SV.d (Value.int IntKind.i64 L.last),
 SV.sl 10 4 0 (rowPk (rowPk k pg).length (pkG (rowPk k pg))).length 0],
 AB.dead, AB.dead, AB.dead, AB.dead, AB.row 36 4 m (pkF q), AB.dead, AB.dead,
 AB.cells 80
 [SV.d
 (Value.int IntKind.i64
 (loseM (ofM (rowMi n (miF f)) (q (0 + i.toNat)).mi) (q (0 + i.toNat)).size).id),
 SV.d
 (Value.int IntKind.i64
 (loseM (ofM (rowMi n (miF f)) (q (0 + i.toNat)).mi)
 (q (0 + i.toNat)).size).frm),
 SV.d
 (Value.int IntKind.i64
 (loseM (ofM (rowMi n (miF f)) (q (0 + i.toNat)).mi) (q (0 + i.toNat)).size).to),
 SV.d
 (Value.int IntKind.i64
 (loseM (ofM (rowMi n (miF f)) (q (0 + i.toNat)).mi)
 (q (0 + i.toNat)).size).sent),
 SV.d
 (Value.int IntKind.i64
 (loseM (ofM (rowMi n (miF f)) (q (0 + i.toNat)).mi)
 (q (0 + i.toNat)).size).acked),
 SV.d
 (Value.int IntKind.i64
 (loseM (ofM (rowMi n (miF f)) (q (0 + i.toNat)).mi)
 (q (0 + i.toNat)).size).lost),
 SV.d
 (Value.int IntKind.i64
 (loseM (ofM (rowMi n (miF f)) (q (0 + i.toNat)).mi)
 (q (0 + i.toNat)).size).packets),
 SV.d
 (Value.int IntKind.i64
 (loseM (ofM (rowMi n (miF f)) (q (0 + i.toNat)).mi)
 (q (0 + i.toNat)).size).hits),
 SV.d
 (Value.int IntKind.i64
 (loseM (ofM (rowMi n (miF f)) (q (0 + i.toNat)).mi)
 (q (0 + i.toNat)).size).drops),
 SV.d
 (Value.int IntKind.i64
 (loseM (ofM (rowMi n (miF f)) (q (0 + i.toNat)).mi) (q (0 + i.toNat)).size).n),
 SV.d
 (Value.int IntKind.i64
 (loseM (ofM (rowMi n (miF f)) (q (0 + i.toNat)).mi)
 (q (0 + i.toNat)).size).sumT),
 SV.d
 (Value.int IntKind.i64
 (loseM (ofM (rowMi n (miF f)) (q (0 + i.toNat)).mi)
 (q (0 + i.toNat)).size).sumR),
 SV.d
 (Value.int IntKind.i64
 (loseM (ofM (rowMi n (miF f)) (q (0 + i.toNat)).mi)
 (q (0 + i.toNat)).size).sumTT),
 SV.d
 (Value.int IntKind.i64
 (loseM (ofM (rowMi n (miF f)) (q (0 + i.toNat)).mi)
 (q (0 + i.toNat)).size).sumTR),
 SV.d
 (Value.int IntKind.i64
 (loseM (ofM (rowMi n (miF f)) (q (0 + i.toNat)).mi)
 (q (0 + i.toNat)).size).sumRR)],
 AB.row 36 4 (rowPk (rowPk k pg).length (pkG (rowPk k pg))).length
 (pkG (rowPk (rowPk k pg).length (pkG (rowPk k pg)))),
 AB.row 80 15
 (putM (rowMi (rowMi n (miF f)).length (miG (rowMi n (miF f))))
 (loseM (ofM (rowMi n (miF f)) (q (0 + i.toNat)).mi)
 (q (0 + i.toNat)).size)).length
 (miG
 (putM (rowMi (rowMi n (miF f)).length (miG (rowMi n (miF f))))
 (loseM (ofM (rowMi n (miF f)) (q (0 + i.toNat)).mi)
 (q (0 + i.toNat)).size)))])))))))).both
 (T.need (some (AB.row 36 4 m (pkF q)) = some (AB.row 36 4 m (pkF q)))
 (T.need (some (AB.row 36 4 m (pkF q)) = some (AB.row 36 4 m (pkF q)))
 (T.need (((n = n ∧ MiRow n (miF f)) ∧ k = k ∧ PkRow k pg) ∧ (rowMi n (miF f)).length ≤ 64)
 (T.need (some (AB.row 36 4 m (pkF q)) = some (AB.row 36 4 m (pkF q)))
 (T.need ((loseE (ofM (rowMi n (miF f)) (q (0 + i.toNat)).mi) (q (0 + i.toNat)).size == 0) = true)
 (T.need
 ((((rowMi n (miF f)).length = (rowMi n (miF f)).length ∧
 MiRow (rowMi n (miF f)).length (miG (rowMi n (miF f)))) ∧
 (rowPk k pg).length = (rowPk k pg).length ∧ PkRow (rowPk k pg).length (pkG (rowPk k pg))) ∧
 (rowMi (rowMi n (miF f)).length (miG (rowMi n (miF f)))).length ≤ 64)
 (T.ret
 (Exit.normal,
 [AV.e (EV.s (SV.ptr 0 0)), AV.e (EV.s (SV.d (Value.int IntKind.i64 at'))),
 AV.e (EV.s (SV.sl 6 4 0 m 0)),
 AV.e (EV.s (SV.d (Value.int IntKind.i64 (IntKind.i64.wrap (i + 1)))))],
 [AB.cells 72
 [SV.ptr 1 0,
 SV.sl 11 15 0
 (putM (rowMi (rowMi n (miF f)).length (miG (rowMi n (miF f))))
 (loseM (ofM (rowMi n (miF f)) (q (0 + i.toNat)).mi)
 (q (0 + i.toNat)).size)).length
 0,
 SV.d (Value.int IntKind.i64 id), SV.d (Value.int IntKind.i64 tmo),
 SV.d (Value.int IntKind.i64 now)],
 AB.cells 44
 [SV.d (Value.int IntKind.i64 L.room), SV.d (Value.int IntKind.u64 L.first),
 SV.d (Value.int IntKind.u64 L.next), SV.d (Value.int IntKind.i64 L.last),
 SV.sl 10 4 0 (rowPk (rowPk k pg).length (pkG (rowPk k pg))).length 0],
 AB.dead, AB.dead, AB.dead, AB.dead, AB.row 36 4 m (pkF q),
 AB.cells 80
 [SV.d
 (Value.int IntKind.i64
 (loseM (ofM (rowMi n (miF f)) (q (0 + i.toNat)).mi) (q (0 + i.toNat)).size).id),
 SV.d
 (Value.int IntKind.i64
 (loseM (ofM (rowMi n (miF f)) (q (0 + i.toNat)).mi) (q (0 + i.toNat)).size).frm),
 SV.d
 (Value.int IntKind.i64
 (loseM (ofM (rowMi n (miF f)) (q (0 + i.toNat)).mi) (q (0 + i.toNat)).size).to),
 SV.d
 (Value.int IntKind.i64
 (loseM (ofM (rowMi n (miF f)) (q (0 + i.toNat)).mi) (q (0 + i.toNat)).size).sent),
 SV.d
 (Value.int IntKind.i64
 (loseM (ofM (rowMi n (miF f)) (q (0 + i.toNat)).mi)
 (q (0 + i.toNat)).size).acked),
 SV.d
 (Value.int IntKind.i64
 (loseM (ofM (rowMi n (miF f)) (q (0 + i.toNat)).mi) (q (0 + i.toNat)).size).lost),
 SV.d
 (Value.int IntKind.i64
 (loseM (ofM (rowMi n (miF f)) (q (0 + i.toNat)).mi)
 (q (0 + i.toNat)).size).packets),
 SV.d
 (Value.int IntKind.i64
 (loseM (ofM (rowMi n (miF f)) (q (0 + i.toNat)).mi) (q (0 + i.toNat)).size).hits),
 SV.d
 (Value.int IntKind.i64
 (loseM (ofM (rowMi n (miF f)) (q (0 + i.toNat)).mi)
 (q (0 + i.toNat)).size).drops),
 SV.d
 (Value.int IntKind.i64
 (loseM (ofM (rowMi n (miF f)) (q (0 + i.toNat)).mi) (q (0 + i.toNat)).size).n),
 SV.d
 (Value.int IntKind.i64
 (loseM (ofM (rowMi n (miF f)) (q (0 + i.toNat)).mi) (q (0 + i.toNat)).size).sumT),
 SV.d
 (Value.int IntKind.i64
 (loseM (ofM (rowMi n (miF f)) (q (0 + i.toNat)).mi) (q (0 + i.toNat)).size).sumR),
 SV.d
 (Value.int IntKind.i64
 (loseM (ofM (rowMi n (miF f)) (q (0 + i.toNat)).mi)
 (q (0 + i.toNat)).size).sumTT),
 SV.d
 (Value.int IntKind.i64
 (loseM (ofM (rowMi n (miF f)) (q (0 + i.toNat)).mi)
 (q (0 + i.toNat)).size).sumTR),
 SV.d
 (Value.int IntKind.i64
 (loseM (ofM (rowMi n (miF f)) (q (0 + i.toNat)).mi)
 (q (0 + i.toNat)).size).sumRR)],
 AB.dead, AB.dead,
 AB.row 36 4 (rowPk (rowPk k pg).length (pkG (rowPk k pg))).length
 (pkG (rowPk (rowPk k pg).length (pkG (rowPk k pg)))),
 AB.row 80 15
 (putM (rowMi (rowMi n (miF f)).length (miG (rowMi n (miF f))))
 (loseM (ofM (rowMi n (miF f)) (q (0 + i.toNat)).mi) (q (0 + i.toNat)).size)).length
 (miG
 (putM (rowMi (rowMi n (miF f)).length (miG (rowMi n (miF f))))
 (loseM (ofM (rowMi n (miF f)) (q (0 + i.toNat)).mi)
 (q (0 + i.toNat)).size)))])))))))))))))
 (T.ret
 (Exit.exit 0,
 [AV.e (EV.s (SV.ptr 0 0)), AV.e (EV.s (SV.d (Value.int IntKind.i64 at'))), AV.e (EV.s (SV.sl 6 4 0 m 0)),
 AV.e (EV.s (SV.d (Value.int IntKind.i64 i)))],
 [AB.cells 72
 [SV.ptr 1 0, SV.sl 5 15 0 n 0, SV.d (Value.int IntKind.i64 id), SV.d (Value.int IntKind.i64 tmo),
 SV.d (Value.int IntKind.i64 now)],
 AB.cells 44
 [SV.d (Value.int IntKind.i64 L.room), SV.d (Value.int IntKind.u64 L.first),
 SV.d (Value.int IntKind.u64 L.next), SV.d (Value.int IntKind.i64 L.last), SV.sl 4 4 0 k 0],
 AB.dead, AB.dead, AB.row 36 4 k pg, AB.row 80 15 n (miF f), AB.row 36 4 m (pkF q)])) := by kernel_rfl


noncomputable def t54k (L : LSt) (k : Nat) (pg : Nat → List Value) (n : Nat) (f : Nat → Mi) (now id tmo at' : Int) (L2 : LSt) (k2 : Nat) (pg2 : Nat → List Value) (f' : Nat → Mi) (m : Nat) (q : Nat → Pkt) (i : Int) (vs : Nat → Value) : T (AV × Heap) := ((t54 L k pg n f now id tmo at').go [true, true, false, true]).kont (.exit 0) ⟨fat [0, 1, 6, 7] vs (x54 at' m i) 53 0, rH4' L2 k2 pg2 n (miF f') now id tmo m (pkF q)⟩

theorem t54k_eq (L : LSt) (k : Nat) (pg : Nat → List Value) (n : Nat) (f : Nat → Mi) (now id tmo at' : Int) (L2 : LSt) (k2 : Nat) (pg2 : Nat → List Value) (f' : Nat → Mi) (m : Nat) (q : Nat → Pkt) (i : Int) (vs : Nat → Value) : t54k L k pg n f now id tmo at' L2 k2 pg2 f' m q i vs =
 T.ret
 (AV.tup [EV.s (SV.sl 6 4 0 m 0), EV.s (SV.c (Value.int IntKind.i64 0))],
 [AB.cells 72
 [SV.ptr 1 0, SV.sl 5 15 0 n 0, SV.d (Value.int IntKind.i64 id), SV.d (Value.int IntKind.i64 tmo),
 SV.d (Value.int IntKind.i64 at')],
 AB.cells 44
 [SV.d (Value.int IntKind.i64 L2.room), SV.d (Value.int IntKind.u64 L2.first),
 SV.d (Value.int IntKind.u64 L2.next), SV.d (Value.int IntKind.i64 L2.last), SV.sl 4 4 0 k2 0],
 AB.dead, AB.dead, AB.row 36 4 k2 pg2, AB.row 80 15 n (miF f'), AB.row 36 4 m (pkF q)]) := by kernel_rfl


theorem kl54 : codeB o54 (loopAt Try.prog 54 0) = true := by kernel_rfl

end Go.Proofs.Ythckkoledhjmeaa.Ev
