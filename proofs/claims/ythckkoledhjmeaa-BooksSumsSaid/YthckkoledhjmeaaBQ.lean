/-
  The abstract evaluator's trees: packets' ends are put into books; an account in place of another (the document's); an account by its Id.
-/
import Derived.Test.YthckkoledhjmeaaBP
namespace Go.Proofs.Ythckkoledhjmeaa.Ev
open Go

def e64 : List (Nat × Ent) := [(64, .body o64 0), (85, .body oN 0), (70, .summ sLose)]

def bH6 (L : LSt) (n : Nat) (g : Nat → List Value) (now id tmo : Int) (m : Nat) (q : Nat → List Value) : Heap := bH L n g now id tmo ++ [.row 36 4 m q, .cells 110 [.fn 85 []]]

def x64 (m : Nat) (i : Int) : List AV := [.e (.s (.ptr 0 0)), .e (.s (.ptr 5 0)), .d (.int .i64 0), .e (.s (.sl 4 4 0 m 0)), .d (.int .i64 m), .d (.int .i64 i)]

noncomputable def t64 (L : LSt) (n : Nat) (f : Nat → Mi) (now id tmo : Int) (m : Nat) (q : Nat → Pkt) : T (AV × Heap) := callT Try.prog (entL e64) 3 64 [.e (.s (.ptr 0 0)), .e (.agg [.fn 85 []]), .e (.s (.sl 4 4 0 m 0))] (bH L n (miF f) now id tmo ++ [.row 36 4 m (pkF q)]) fun r H' => .ret (r, H')

theorem t64_eq (L : LSt) (n : Nat) (f : Nat → Mi) (now id tmo : Int) (m : Nat) (q : Nat → Pkt) : t64 L n f now id tmo m q =
 T.code 5 (loopAt Try.prog 64 0).loop
 { fr := [AV.e (EV.s (SV.ptr 0 0)), AV.e (EV.agg [SV.fn 85 []]), AV.e (EV.s (SV.sl 4 4 0 m 0)), AV.tup [], AV.e (EV.s (SV.ptr 5 0)), AV.tup [], AV.e (EV.s (SV.c (Value.int IntKind.i64 0))), AV.tup [], AV.tup [], AV.tup [], AV.tup [], AV.tup [], AV.e (EV.s (SV.sl 4 4 0 m 0)), AV.e (EV.s (SV.d (Value.int IntKind.i64 (↑m : Int)))), AV.e (EV.s (SV.c (Value.int IntKind.i64 0))), AV.tup [], AV.tup [], AV.tup [], AV.tup [], AV.tup [], AV.tup [], AV.tup [], AV.tup [], AV.tup [], AV.tup [], AV.tup [], AV.tup [], AV.tup [], AV.tup [], AV.tup [], AV.tup [], AV.tup [], AV.tup [], AV.tup [], AV.tup [], AV.tup [], AV.tup [], AV.tup [], AV.tup [], AV.tup [], AV.tup [], AV.tup [], AV.tup [], AV.tup [], AV.tup [], AV.tup [], AV.tup [], AV.tup [], AV.tup [], AV.tup []], H := [AB.cells 95 [SV.ptr 1 0, SV.d (Value.int IntKind.i64 now), SV.sl 3 15 0 n 0, SV.d (Value.int IntKind.i64 id), SV.d (Value.int IntKind.i64 tmo)], AB.cells 86 [SV.d (Value.int IntKind.i64 L.room), SV.d (Value.int IntKind.u64 L.first), SV.d (Value.int IntKind.u64 L.next), SV.d (Value.int IntKind.i64 L.last), SV.mp 2], AB.pm L.es, AB.row 80 15 n (miF f), AB.row 36 4 m (pkF q), AB.cells 110 [SV.fn 85 []]] : St }
 (T.go [] (t64 L n f now id tmo m q)).kont := by kernel_rfl


noncomputable def t64b (L : LSt) (n : Nat) (f : Nat → Mi) (now id tmo : Int) (m : Nat) (q : Nat → Pkt) (i : Int) (vs : Nat → Value) : T (Exit × List AV × Heap) := bodyT Try.prog e64 2 o64 5 (loopAt Try.prog 64 0) [0, 4, 6, 12, 13, 14] 50 (x64 m i) (bH6 L n (miF f) now id tmo m (pkF q)) vs

theorem t64b_eq (L : LSt) (n : Nat) (f : Nat → Mi) (now id tmo : Int) (m : Nat) (q : Nat → Pkt) (i : Int) (vs : Nat → Value) : t64b L n f now id tmo m q i vs =
 T.ite (decide (i < (↑m : Int)))
 (T.need (0 ≤ i ∧ i < (↑m : Int))
 (T.need (0 + i.toNat < m)
 (T.need ((0 : Int) ≤ 0 ∧ (0 : Int) < (↑n : Int))
 (T.need (0 < n)
 (T.need
 (0 ≤ IntKind.i64.wrap ((q (0 + i.toNat)).mi - (f 0).id) ∧
 IntKind.i64.wrap ((q (0 + i.toNat)).mi - (f 0).id) < (↑n : Int))
 (T.need (0 + (IntKind.i64.wrap ((q (0 + i.toNat)).mi - (f 0).id)).toNat < n)
 ((T.ite
 (loseE (f (0 + (IntKind.i64.wrap ((q (0 + i.toNat)).mi - (f 0).id)).toNat))
 (q (0 + i.toNat)).size ==
 0)
 (T.need (0 + (IntKind.i64.wrap ((q (0 + i.toNat)).mi - (f 0).id)).toNat < n)
 (T.ret
 (Exit.normal,
 [AV.e (EV.s (SV.ptr 0 0)), AV.e (EV.s (SV.ptr 5 0)),
 AV.e (EV.s (SV.d (Value.int IntKind.i64 0))), AV.e (EV.s (SV.sl 4 4 0 m 0)),
 AV.e (EV.s (SV.d (Value.int IntKind.i64 (↑m : Int)))),
 AV.e (EV.s (SV.d (Value.int IntKind.i64 (IntKind.i64.wrap (i + 1)))))],
 [AB.cells 95
 [SV.ptr 1 0, SV.d (Value.int IntKind.i64 now), SV.sl 3 15 0 n 0,
 SV.d (Value.int IntKind.i64 id), SV.d (Value.int IntKind.i64 tmo)],
 AB.cells 86
 [SV.d (Value.int IntKind.i64 L.room), SV.d (Value.int IntKind.u64 L.first),
 SV.d (Value.int IntKind.u64 L.next), SV.d (Value.int IntKind.i64 L.last), SV.mp 2],
 AB.pm L.es,
 AB.row 80 15 n
 (spliceG (miF f) (0 + (IntKind.i64.wrap ((q (0 + i.toNat)).mi - (f 0).id)).toNat) 0
 [Value.int IntKind.i64
 (loseM (f (0 + (IntKind.i64.wrap ((q (0 + i.toNat)).mi - (f 0).id)).toNat))
 (q (0 + i.toNat)).size).id,
 Value.int IntKind.i64
 (loseM (f (0 + (IntKind.i64.wrap ((q (0 + i.toNat)).mi - (f 0).id)).toNat))
 (q (0 + i.toNat)).size).frm,
 Value.int IntKind.i64
 (loseM (f (0 + (IntKind.i64.wrap ((q (0 + i.toNat)).mi - (f 0).id)).toNat))
 (q (0 + i.toNat)).size).to,
 Value.int IntKind.i64
 (loseM (f (0 + (IntKind.i64.wrap ((q (0 + i.toNat)).mi - (f 0).id)).toNat))
 (q (0 + i.toNat)).size).sent,
 Value.int IntKind.i64
 (loseM (f (0 + (IntKind.i64.wrap ((q (0 + i.toNat)).mi - (f 0).id)).toNat))
 (q (0 + i.toNat)).size).acked,
 Value.int IntKind.i64
 (loseM (f (0 + (IntKind.i64.wrap ((q (0 + i.toNat)).mi - (f 0).id)).toNat))
 (q (0 + i.toNat)).size).lost,
 Value.int IntKind.i64
 (loseM (f (0 + (IntKind.i64.wrap ((q (0 + i.toNat)).mi - (f 0).id)).toNat))
 (q (0 + i.toNat)).size).packets,
 Value.int IntKind.i64
 (loseM (f (0 + (IntKind.i64.wrap ((q (0 + i.toNat)).mi - (f 0).id)).toNat))
 (q (0 + i.toNat)).size).hits,
 Value.int IntKind.i64
 (loseM (f (0 + (IntKind.i64.wrap ((q (0 + i.toNat)).mi - (f 0).id)).toNat))
 (q (0 + i.toNat)).size).drops,
 Value.int IntKind.i64
 (loseM (f (0 + (IntKind.i64.wrap ((q (0 + i.toNat)).mi - (f 0).id)).toNat))
 (q (0 + i.toNat)).size).n,
 Value.int IntKind.i64
 (loseM (f (0 + (IntKind.i64.wrap ((q (0 + i.toNat)).mi - (f 0).id)).toNat))
 (q (0 + i.toNat)).size).sumT,
 Value.int IntKind.i64
 (loseM (f (0 + (IntKind.i64.wrap ((q (0 + i.toNat)).mi - (f 0).id)).toNat))
 (q (0 + i.toNat)).size).sumR,
 Value.int IntKind.i64
 (loseM (f (0 + (IntKind.i64.wrap ((q (0 + i.toNat)).mi - (f 0).id)).toNat))
 (q (0 + i.toNat)).size).sumTT,
 Value.int IntKind.i64
 (loseM (f (0 + (IntKind.i64.wrap ((q (0 + i.toNat)).mi - (f 0).id)).toNat))
 (q (0 + i.toNat)).size).sumTR,
 Value.int IntKind.i64
 (loseM (f (0 + (IntKind.i64.wrap ((q (0 + i.toNat)).mi - (f 0).id)).toNat))
 (q (0 + i.toNat)).size).sumRR]),
 AB.row 36 4 m (pkF q), AB.cells 110 [SV.fn 85 []],
 AB.cells 36
 [SV.d (Value.int IntKind.u64 (q (0 + i.toNat)).seq),
 SV.d (Value.int IntKind.i64 (q (0 + i.toNat)).mi),
 SV.d (Value.int IntKind.i64 (q (0 + i.toNat)).size),
 SV.d (Value.int IntKind.i64 (q (0 + i.toNat)).sent)],
 AB.cells 80
 [SV.d
 (Value.int IntKind.i64
 (loseM (f (0 + (IntKind.i64.wrap ((q (0 + i.toNat)).mi - (f 0).id)).toNat))
 (q (0 + i.toNat)).size).id),
 SV.d
 (Value.int IntKind.i64
 (loseM (f (0 + (IntKind.i64.wrap ((q (0 + i.toNat)).mi - (f 0).id)).toNat))
 (q (0 + i.toNat)).size).frm),
 SV.d
 (Value.int IntKind.i64
 (loseM (f (0 + (IntKind.i64.wrap ((q (0 + i.toNat)).mi - (f 0).id)).toNat))
 (q (0 + i.toNat)).size).to),
 SV.d
 (Value.int IntKind.i64
 (loseM (f (0 + (IntKind.i64.wrap ((q (0 + i.toNat)).mi - (f 0).id)).toNat))
 (q (0 + i.toNat)).size).sent),
 SV.d
 (Value.int IntKind.i64
 (loseM (f (0 + (IntKind.i64.wrap ((q (0 + i.toNat)).mi - (f 0).id)).toNat))
 (q (0 + i.toNat)).size).acked),
 SV.d
 (Value.int IntKind.i64
 (loseM (f (0 + (IntKind.i64.wrap ((q (0 + i.toNat)).mi - (f 0).id)).toNat))
 (q (0 + i.toNat)).size).lost),
 SV.d
 (Value.int IntKind.i64
 (loseM (f (0 + (IntKind.i64.wrap ((q (0 + i.toNat)).mi - (f 0).id)).toNat))
 (q (0 + i.toNat)).size).packets),
 SV.d
 (Value.int IntKind.i64
 (loseM (f (0 + (IntKind.i64.wrap ((q (0 + i.toNat)).mi - (f 0).id)).toNat))
 (q (0 + i.toNat)).size).hits),
 SV.d
 (Value.int IntKind.i64
 (loseM (f (0 + (IntKind.i64.wrap ((q (0 + i.toNat)).mi - (f 0).id)).toNat))
 (q (0 + i.toNat)).size).drops),
 SV.d
 (Value.int IntKind.i64
 (loseM (f (0 + (IntKind.i64.wrap ((q (0 + i.toNat)).mi - (f 0).id)).toNat))
 (q (0 + i.toNat)).size).n),
 SV.d
 (Value.int IntKind.i64
 (loseM (f (0 + (IntKind.i64.wrap ((q (0 + i.toNat)).mi - (f 0).id)).toNat))
 (q (0 + i.toNat)).size).sumT),
 SV.d
 (Value.int IntKind.i64
 (loseM (f (0 + (IntKind.i64.wrap ((q (0 + i.toNat)).mi - (f 0).id)).toNat))
 (q (0 + i.toNat)).size).sumR),
 SV.d
 (Value.int IntKind.i64
 (loseM (f (0 + (IntKind.i64.wrap ((q (0 + i.toNat)).mi - (f 0).id)).toNat))
 (q (0 + i.toNat)).size).sumTT),
 SV.d
 (Value.int IntKind.i64
 (loseM (f (0 + (IntKind.i64.wrap ((q (0 + i.toNat)).mi - (f 0).id)).toNat))
 (q (0 + i.toNat)).size).sumTR),
 SV.d
 (Value.int IntKind.i64
 (loseM (f (0 + (IntKind.i64.wrap ((q (0 + i.toNat)).mi - (f 0).id)).toNat))
 (q (0 + i.toNat)).size).sumRR)]])))
 (T.ite
 (loseE (f (0 + (IntKind.i64.wrap ((q (0 + i.toNat)).mi - (f 0).id)).toNat))
 (q (0 + i.toNat)).size !=
 0)
 (T.ret
 (Exit.ret,
 [AV.e (EV.s (SV.ptr 0 0)), AV.e (EV.s (SV.ptr 5 0)),
 AV.e
 (EV.s
 (SV.d
 (Value.int IntKind.i64
 (loseE (f (0 + (IntKind.i64.wrap ((q (0 + i.toNat)).mi - (f 0).id)).toNat))
 (q (0 + i.toNat)).size)))),
 AV.e (EV.s (SV.sl 4 4 0 m 0)), AV.e (EV.s (SV.d (Value.int IntKind.i64 (↑m : Int)))),
 AV.e (EV.s (SV.d (Value.int IntKind.i64 i)))],
 [AB.cells 95
 [SV.ptr 1 0, SV.d (Value.int IntKind.i64 now), SV.sl 3 15 0 n 0,
 SV.d (Value.int IntKind.i64 id), SV.d (Value.int IntKind.i64 tmo)],
 AB.cells 86
 [SV.d (Value.int IntKind.i64 L.room), SV.d (Value.int IntKind.u64 L.first),
 SV.d (Value.int IntKind.u64 L.next), SV.d (Value.int IntKind.i64 L.last), SV.mp 2],
 AB.pm L.es, AB.row 80 15 n (miF f), AB.row 36 4 m (pkF q), AB.cells 110 [SV.fn 85 []],
 AB.cells 36
 [SV.d (Value.int IntKind.u64 (q (0 + i.toNat)).seq),
 SV.d (Value.int IntKind.i64 (q (0 + i.toNat)).mi),
 SV.d (Value.int IntKind.i64 (q (0 + i.toNat)).size),
 SV.d (Value.int IntKind.i64 (q (0 + i.toNat)).sent)],
 AB.cells 80
 [SV.d (Value.int IntKind.i64 0), SV.d (Value.int IntKind.i64 0),
 SV.d (Value.int IntKind.i64 0), SV.d (Value.int IntKind.i64 0),
 SV.d (Value.int IntKind.i64 0), SV.d (Value.int IntKind.i64 0),
 SV.d (Value.int IntKind.i64 0), SV.d (Value.int IntKind.i64 0),
 SV.d (Value.int IntKind.i64 0), SV.d (Value.int IntKind.i64 0),
 SV.d (Value.int IntKind.i64 0), SV.d (Value.int IntKind.i64 0),
 SV.d (Value.int IntKind.i64 0), SV.d (Value.int IntKind.i64 0),
 SV.d (Value.int IntKind.i64 0)]]))
 (T.need (0 + (IntKind.i64.wrap ((q (0 + i.toNat)).mi - (f 0).id)).toNat < n)
 (T.ret
 (Exit.normal,
 [AV.e (EV.s (SV.ptr 0 0)), AV.e (EV.s (SV.ptr 5 0)),
 AV.e (EV.s (SV.d (Value.int IntKind.i64 0))), AV.e (EV.s (SV.sl 4 4 0 m 0)),
 AV.e (EV.s (SV.d (Value.int IntKind.i64 (↑m : Int)))),
 AV.e (EV.s (SV.d (Value.int IntKind.i64 (IntKind.i64.wrap (i + 1)))))],
 [AB.cells 95
 [SV.ptr 1 0, SV.d (Value.int IntKind.i64 now), SV.sl 3 15 0 n 0,
 SV.d (Value.int IntKind.i64 id), SV.d (Value.int IntKind.i64 tmo)],
 AB.cells 86
 [SV.d (Value.int IntKind.i64 L.room), SV.d (Value.int IntKind.u64 L.first),
 SV.d (Value.int IntKind.u64 L.next), SV.d (Value.int IntKind.i64 L.last), SV.mp 2],
 AB.pm L.es,
 AB.row 80 15 n
 (spliceG (miF f) (0 + (IntKind.i64.wrap ((q (0 + i.toNat)).mi - (f 0).id)).toNat) 0
 [Value.int IntKind.i64 Mi.zero.id, Value.int IntKind.i64 Mi.zero.frm,
 Value.int IntKind.i64 Mi.zero.to, Value.int IntKind.i64 Mi.zero.sent,
 Value.int IntKind.i64 Mi.zero.acked, Value.int IntKind.i64 Mi.zero.lost,
 Value.int IntKind.i64 Mi.zero.packets, Value.int IntKind.i64 Mi.zero.hits,
 Value.int IntKind.i64 Mi.zero.drops, Value.int IntKind.i64 Mi.zero.n,
 Value.int IntKind.i64 Mi.zero.sumT, Value.int IntKind.i64 Mi.zero.sumR,
 Value.int IntKind.i64 Mi.zero.sumTT, Value.int IntKind.i64 Mi.zero.sumTR,
 Value.int IntKind.i64 Mi.zero.sumRR]),
 AB.row 36 4 m (pkF q), AB.cells 110 [SV.fn 85 []],
 AB.cells 36
 [SV.d (Value.int IntKind.u64 (q (0 + i.toNat)).seq),
 SV.d (Value.int IntKind.i64 (q (0 + i.toNat)).mi),
 SV.d (Value.int IntKind.i64 (q (0 + i.toNat)).size),
 SV.d (Value.int IntKind.i64 (q (0 + i.toNat)).sent)],
 AB.cells 80
 [SV.d (Value.int IntKind.i64 0), SV.d (Value.int IntKind.i64 0),
 SV.d (Value.int IntKind.i64 0), SV.d (Value.int IntKind.i64 0),
 SV.d (Value.int IntKind.i64 0), SV.d (Value.int IntKind.i64 0),
 SV.d (Value.int IntKind.i64 0), SV.d (Value.int IntKind.i64 0),
 SV.d (Value.int IntKind.i64 0), SV.d (Value.int IntKind.i64 0),
 SV.d (Value.int IntKind.i64 0), SV.d (Value.int IntKind.i64 0),
 SV.d (Value.int IntKind.i64 0), SV.d (Value.int IntKind.i64 0),
 SV.d (Value.int IntKind.i64 0)]]))))).both
 (T.need
 (some
 (AB.cells 36
 [SV.d (Value.int IntKind.u64 (q (0 + i.toNat)).seq),
 SV.d (Value.int IntKind.i64 (q (0 + i.toNat)).mi),
 SV.d (Value.int IntKind.i64 (q (0 + i.toNat)).size),
 SV.d (Value.int IntKind.i64 (q (0 + i.toNat)).sent)]) =
 some
 (AB.cells 36
 [SV.d (Value.int IntKind.u64 (q (0 + i.toNat)).seq),
 SV.d (Value.int IntKind.i64 (q (0 + i.toNat)).mi),
 SV.d (Value.int IntKind.i64 (q (0 + i.toNat)).size),
 SV.d (Value.int IntKind.i64 (q (0 + i.toNat)).sent)]))
 (T.need (some (AB.row 80 15 n (miF f)) = some (AB.row 80 15 n (miF f)))
 (T.need (some (AB.cells 110 [SV.fn 85 []]) = some (AB.cells 110 [SV.fn 85 []]))
 (T.ite
 (loseE (f (0 + (IntKind.i64.wrap ((q (0 + i.toNat)).mi - (f 0).id)).toNat))
 (q (0 + i.toNat)).size ==
 0)
 (T.need (0 + (IntKind.i64.wrap ((q (0 + i.toNat)).mi - (f 0).id)).toNat < n)
 (T.ret
 (Exit.normal,
 [AV.e (EV.s (SV.ptr 0 0)), AV.e (EV.s (SV.ptr 5 0)),
 AV.e (EV.s (SV.d (Value.int IntKind.i64 0))), AV.e (EV.s (SV.sl 4 4 0 m 0)),
 AV.e (EV.s (SV.d (Value.int IntKind.i64 (↑m : Int)))),
 AV.e (EV.s (SV.d (Value.int IntKind.i64 (IntKind.i64.wrap (i + 1)))))],
 [AB.cells 95
 [SV.ptr 1 0, SV.d (Value.int IntKind.i64 now), SV.sl 3 15 0 n 0,
 SV.d (Value.int IntKind.i64 id), SV.d (Value.int IntKind.i64 tmo)],
 AB.cells 86
 [SV.d (Value.int IntKind.i64 L.room), SV.d (Value.int IntKind.u64 L.first),
 SV.d (Value.int IntKind.u64 L.next), SV.d (Value.int IntKind.i64 L.last), SV.mp 2],
 AB.pm L.es,
 AB.row 80 15 n
 (spliceG (miF f) (0 + (IntKind.i64.wrap ((q (0 + i.toNat)).mi - (f 0).id)).toNat) 0
 [Value.int IntKind.i64
 (loseM (f (0 + (IntKind.i64.wrap ((q (0 + i.toNat)).mi - (f 0).id)).toNat))
 (q (0 + i.toNat)).size).id,
 Value.int IntKind.i64
 (loseM (f (0 + (IntKind.i64.wrap ((q (0 + i.toNat)).mi - (f 0).id)).toNat))
 (q (0 + i.toNat)).size).frm,
 Value.int IntKind.i64
 (loseM (f (0 + (IntKind.i64.wrap ((q (0 + i.toNat)).mi - (f 0).id)).toNat))
 (q (0 + i.toNat)).size).to,
 Value.int IntKind.i64
 (loseM (f (0 + (IntKind.i64.wrap ((q (0 + i.toNat)).mi - (f 0).id)).toNat))
 (q (0 + i.toNat)).size).sent,
 Value.int IntKind.i64
 (loseM (f (0 + (IntKind.i64.wrap ((q (0 + i.toNat)).mi - (f 0).id)).toNat))
 (q (0 + i.toNat)).size).acked,
 Value.int IntKind.i64
 (loseM (f (0 + (IntKind.i64.wrap ((q (0 + i.toNat)).mi - (f 0).id)).toNat))
 (q (0 + i.toNat)).size).lost,
 Value.int IntKind.i64
 (loseM (f (0 + (IntKind.i64.wrap ((q (0 + i.toNat)).mi - (f 0).id)).toNat))
 (q (0 + i.toNat)).size).packets,
 Value.int IntKind.i64
 (loseM (f (0 + (IntKind.i64.wrap ((q (0 + i.toNat)).mi - (f 0).id)).toNat))
 (q (0 + i.toNat)).size).hits,
 Value.int IntKind.i64
 (loseM (f (0 + (IntKind.i64.wrap ((q (0 + i.toNat)).mi - (f 0).id)).toNat))
 (q (0 + i.toNat)).size).drops,
 Value.int IntKind.i64
 (loseM (f (0 + (IntKind.i64.wrap ((q (0 + i.toNat)).mi - (f 0).id)).toNat))
 (q (0 + i.toNat)).size).n,
 Value.int IntKind.i64
 (loseM (f (0 + (IntKind.i64.wrap ((q (0 + i.toNat)).mi - (f 0).id)).toNat))
 (q (0 + i.toNat)).size).sumT,
 Value.int IntKind.i64
 (loseM (f (0 + (IntKind.i64.wrap ((q (0 + i.toNat)).mi - (f 0).id)).toNat))
 (q (0 + i.toNat)).size).sumR,
 Value.int IntKind.i64
 (loseM (f (0 + (IntKind.i64.wrap ((q (0 + i.toNat)).mi - (f 0).id)).toNat))
 (q (0 + i.toNat)).size).sumTT,
 Value.int IntKind.i64
 (loseM (f (0 + (IntKind.i64.wrap ((q (0 + i.toNat)).mi - (f 0).id)).toNat))
 (q (0 + i.toNat)).size).sumTR,
 Value.int IntKind.i64
 (loseM (f (0 + (IntKind.i64.wrap ((q (0 + i.toNat)).mi - (f 0).id)).toNat))
 (q (0 + i.toNat)).size).sumRR]),
 AB.row 36 4 m (pkF q), AB.cells 110 [SV.fn 85 []],
 AB.cells 36
 [SV.d (Value.int IntKind.u64 (q (0 + i.toNat)).seq),
 SV.d (Value.int IntKind.i64 (q (0 + i.toNat)).mi),
 SV.d (Value.int IntKind.i64 (q (0 + i.toNat)).size),
 SV.d (Value.int IntKind.i64 (q (0 + i.toNat)).sent)],
 AB.cells 80
 [SV.d
 (Value.int IntKind.i64
 (loseM (f (0 + (IntKind.i64.wrap ((q (0 + i.toNat)).mi - (f 0).id)).toNat))
 (q (0 + i.toNat)).size).id),
 SV.d
 (Value.int IntKind.i64
 (loseM (f (0 + (IntKind.i64.wrap ((q (0 + i.toNat)).mi - (f 0).id)).toNat))
 (q (0 + i.toNat)).size).frm),
 SV.d
 (Value.int IntKind.i64
 (loseM (f (0 + (IntKind.i64.wrap ((q (0 + i.toNat)).mi - (f 0).id)).toNat))
 (q (0 + i.toNat)).size).to),
 SV.d
 (Value.int IntKind.i64
 (loseM (f (0 + (IntKind.i64.wrap ((q (0 + i.toNat)).mi - (f 0).id)).toNat))
 (q (0 + i.toNat)).size).sent),
 SV.d
 (Value.int IntKind.i64
 (loseM (f (0 + (IntKind.i64.wrap ((q (0 + i.toNat)).mi - (f 0).id)).toNat))
 (q (0 + i.toNat)).size).acked),
 SV.d
 (Value.int IntKind.i64
 (loseM (f (0 + (IntKind.i64.wrap ((q (0 + i.toNat)).mi - (f 0).id)).toNat))
 (q (0 + i.toNat)).size).lost),
 SV.d
 (Value.int IntKind.i64
 (loseM (f (0 + (IntKind.i64.wrap ((q (0 + i.toNat)).mi - (f 0).id)).toNat))
 (q (0 + i.toNat)).size).packets),
 SV.d
 (Value.int IntKind.i64
 (loseM (f (0 + (IntKind.i64.wrap ((q (0 + i.toNat)).mi - (f 0).id)).toNat))
 (q (0 + i.toNat)).size).hits),
 SV.d
 (Value.int IntKind.i64
 (loseM (f (0 + (IntKind.i64.wrap ((q (0 + i.toNat)).mi - (f 0).id)).toNat))
 (q (0 + i.toNat)).size).drops),
 SV.d
 (Value.int IntKind.i64
 (loseM (f (0 + (IntKind.i64.wrap ((q (0 + i.toNat)).mi - (f 0).id)).toNat))
 (q (0 + i.toNat)).size).n),
 SV.d
 (Value.int IntKind.i64
 (loseM (f (0 + (IntKind.i64.wrap ((q (0 + i.toNat)).mi - (f 0).id)).toNat))
 (q (0 + i.toNat)).size).sumT),
 SV.d
 (Value.int IntKind.i64
 (loseM (f (0 + (IntKind.i64.wrap ((q (0 + i.toNat)).mi - (f 0).id)).toNat))
 (q (0 + i.toNat)).size).sumR),
 SV.d
 (Value.int IntKind.i64
 (loseM (f (0 + (IntKind.i64.wrap ((q (0 + i.toNat)).mi - (f 0).id)).toNat))
 (q (0 + i.toNat)).size).sumTT),
 SV.d
 (Value.int IntKind.i64
 (loseM (f (0 + (IntKind.i64.wrap ((q (0 + i.toNat)).mi - (f 0).id)).toNat))
 (q (0 + i.toNat)).size).sumTR),
 SV.d
 (Value.int IntKind.i64
 (loseM (f (0 + (IntKind.i64.wrap ((q (0 + i.toNat)).mi - (f 0).id)).toNat))
 (q (0 + i.toNat)).size).sumRR)]])))
 (T.ite
 (loseE (f (0 + (IntKind.i64.wrap ((q (0 + i.toNat)).mi - (f 0).id)).toNat))
 (q (0 + i.toNat)).size !=
 0)
 (T.ret
 (Exit.ret,
 [AV.e (EV.s (SV.ptr 0 0)), AV.e (EV.s (SV.ptr 5 0)),
 AV.e
 (EV.s
 (SV.d
 (Value.int IntKind.i64
 (loseE (f (0 + (IntKind.i64.wrap ((q (0 + i.toNat)).mi - (f 0).id)).toNat))
 (q (0 + i.toNat)).size)))),
 AV.e (EV.s (SV.sl 4 4 0 m 0)), AV.e (EV.s (SV.d (Value.int IntKind.i64 (↑m : Int)))),
 AV.e (EV.s (SV.d (Value.int IntKind.i64 i)))],
 [AB.cells 95
 [SV.ptr 1 0, SV.d (Value.int IntKind.i64 now), SV.sl 3 15 0 n 0,
 SV.d (Value.int IntKind.i64 id), SV.d (Value.int IntKind.i64 tmo)],
 AB.cells 86
 [SV.d (Value.int IntKind.i64 L.room), SV.d (Value.int IntKind.u64 L.first),
 SV.d (Value.int IntKind.u64 L.next), SV.d (Value.int IntKind.i64 L.last), SV.mp 2],
 AB.pm L.es, AB.row 80 15 n (miF f), AB.row 36 4 m (pkF q), AB.cells 110 [SV.fn 85 []],
 AB.cells 36
 [SV.d (Value.int IntKind.u64 (q (0 + i.toNat)).seq),
 SV.d (Value.int IntKind.i64 (q (0 + i.toNat)).mi),
 SV.d (Value.int IntKind.i64 (q (0 + i.toNat)).size),
 SV.d (Value.int IntKind.i64 (q (0 + i.toNat)).sent)],
 AB.cells 80
 [SV.d (Value.int IntKind.i64 0), SV.d (Value.int IntKind.i64 0),
 SV.d (Value.int IntKind.i64 0), SV.d (Value.int IntKind.i64 0),
 SV.d (Value.int IntKind.i64 0), SV.d (Value.int IntKind.i64 0),
 SV.d (Value.int IntKind.i64 0), SV.d (Value.int IntKind.i64 0),
 SV.d (Value.int IntKind.i64 0), SV.d (Value.int IntKind.i64 0),
 SV.d (Value.int IntKind.i64 0), SV.d (Value.int IntKind.i64 0),
 SV.d (Value.int IntKind.i64 0), SV.d (Value.int IntKind.i64 0),
 SV.d (Value.int IntKind.i64 0)]]))
 (T.need (0 + (IntKind.i64.wrap ((q (0 + i.toNat)).mi - (f 0).id)).toNat < n)
 (T.ret
 (Exit.normal,
 [AV.e (EV.s (SV.ptr 0 0)), AV.e (EV.s (SV.ptr 5 0)),
 AV.e (EV.s (SV.d (Value.int IntKind.i64 0))), AV.e (EV.s (SV.sl 4 4 0 m 0)),
 AV.e (EV.s (SV.d (Value.int IntKind.i64 (↑m : Int)))),
 AV.e (EV.s (SV.d (Value.int IntKind.i64 (IntKind.i64.wrap (i + 1)))))],
 [AB.cells 95
 [SV.ptr 1 0, SV.d (Value.int IntKind.i64 now), SV.sl 3 15 0 n 0,
 SV.d (Value.int IntKind.i64 id), SV.d (Value.int IntKind.i64 tmo)],
 AB.cells 86
 [SV.d (Value.int IntKind.i64 L.room), SV.d (Value.int IntKind.u64 L.first),
 SV.d (Value.int IntKind.u64 L.next), SV.d (Value.int IntKind.i64 L.last),
 SV.mp 2],
 AB.pm L.es,
 AB.row 80 15 n
 (spliceG (miF f) (0 + (IntKind.i64.wrap ((q (0 + i.toNat)).mi - (f 0).id)).toNat) 0
 [Value.int IntKind.i64 Mi.zero.id, Value.int IntKind.i64 Mi.zero.frm,
 Value.int IntKind.i64 Mi.zero.to, Value.int IntKind.i64 Mi.zero.sent,
 Value.int IntKind.i64 Mi.zero.acked, Value.int IntKind.i64 Mi.zero.lost,
 Value.int IntKind.i64 Mi.zero.packets, Value.int IntKind.i64 Mi.zero.hits,
 Value.int IntKind.i64 Mi.zero.drops, Value.int IntKind.i64 Mi.zero.n,
 Value.int IntKind.i64 Mi.zero.sumT, Value.int IntKind.i64 Mi.zero.sumR,
 Value.int IntKind.i64 Mi.zero.sumTT, Value.int IntKind.i64 Mi.zero.sumTR,
 Value.int IntKind.i64 Mi.zero.sumRR]),
 AB.row 36 4 m (pkF q), AB.cells 110 [SV.fn 85 []],
 AB.cells 36
 [SV.d (Value.int IntKind.u64 (q (0 + i.toNat)).seq),
 SV.d (Value.int IntKind.i64 (q (0 + i.toNat)).mi),
 SV.d (Value.int IntKind.i64 (q (0 + i.toNat)).size),
 SV.d (Value.int IntKind.i64 (q (0 + i.toNat)).sent)],
 AB.cells 80
 [SV.d (Value.int IntKind.i64 0), SV.d (Value.int IntKind.i64 0),
 SV.d (Value.int IntKind.i64 0), SV.d (Value.int IntKind.i64 0),
 SV.d (Value.int IntKind.i64 0), SV.d (Value.int IntKind.i64 0),
 SV.d (Value.int IntKind.i64 0), SV.d (Value.int IntKind.i64 0),
 SV.d (Value.int IntKind.i64 0), SV.d (Value.int IntKind.i64 0),
 SV.d (Value.int IntKind.i64 0), SV.d (Value.int IntKind.i64 0),
 SV.d (Value.int IntKind.i64 0), SV.d (Value.int IntKind.i64 0),
 SV.d (Value.int IntKind.i64 0)]])))))))))))))))
 (T.ret
 (Exit.exit 0,
 [AV.e (EV.s (SV.ptr 0 0)), AV.e (EV.s (SV.ptr 5 0)), AV.e (EV.s (SV.d (Value.int IntKind.i64 0))),
 AV.e (EV.s (SV.sl 4 4 0 m 0)), AV.e (EV.s (SV.d (Value.int IntKind.i64 (↑m : Int)))),
 AV.e (EV.s (SV.d (Value.int IntKind.i64 i)))],
 [AB.cells 95
 [SV.ptr 1 0, SV.d (Value.int IntKind.i64 now), SV.sl 3 15 0 n 0, SV.d (Value.int IntKind.i64 id),
 SV.d (Value.int IntKind.i64 tmo)],
 AB.cells 86
 [SV.d (Value.int IntKind.i64 L.room), SV.d (Value.int IntKind.u64 L.first),
 SV.d (Value.int IntKind.u64 L.next), SV.d (Value.int IntKind.i64 L.last), SV.mp 2],
 AB.pm L.es, AB.row 80 15 n (miF f), AB.row 36 4 m (pkF q), AB.cells 110 [SV.fn 85 []]])) := by kernel_rfl


noncomputable def t64k (L : LSt) (n : Nat) (f : Nat → Mi) (now id tmo : Int) (m : Nat) (q : Nat → Pkt) (f' : Nat → Mi) (i : Int) (vs : Nat → Value) : T (AV × Heap) := ((t64 L n f now id tmo m q).go []).kont (.exit 0) ⟨fat [0, 4, 6, 12, 13, 14] vs (x64 m i) 50 0, bH6 L n (miF f') now id tmo m (pkF q)⟩

theorem t64k_eq (L : LSt) (n : Nat) (f : Nat → Mi) (now id tmo : Int) (m : Nat) (q : Nat → Pkt) (f' : Nat → Mi) (i : Int) (vs : Nat → Value) : t64k L n f now id tmo m q f' i vs =
 T.ret
 (AV.e (EV.s (SV.c (Value.int IntKind.i64 0))),
 [AB.cells 95
 [SV.ptr 1 0, SV.d (Value.int IntKind.i64 now), SV.sl 3 15 0 n 0, SV.d (Value.int IntKind.i64 id),
 SV.d (Value.int IntKind.i64 tmo)],
 AB.cells 86
 [SV.d (Value.int IntKind.i64 L.room), SV.d (Value.int IntKind.u64 L.first), SV.d (Value.int IntKind.u64 L.next),
 SV.d (Value.int IntKind.i64 L.last), SV.mp 2],
 AB.pm L.es, AB.row 80 15 n (miF f'), AB.row 36 4 m (pkF q)]) := by kernel_rfl


theorem kl64 : codeB o64 (loopAt Try.prog 64 0) = true := by kernel_rfl

/-- The document's books in memory. -/
def rH (L : LSt) (k : Nat) (pg : Nat → List Value) (n : Nat) (g : Nat → List Value) (now id tmo : Int) : Heap :=
  [.cells 72 [.ptr 1 0, .sl 3 15 0 n 0, .d (.int .i64 id), .d (.int .i64 tmo), .d (.int .i64 now)], .cells 44 (rc L 2 k), .row 36 4 k pg, .row 80 15 n g]

def e74 : List (Nat × Ent) := [(74, .body o74 0)]
def e78 : List (Nat × Ent) := [(78, .body oN 0)]

def x74 (k : Nat) (i : Int) : List AV := [.e (.s (.ptr 0 0)), .e (.s (.ptr 4 0)), .e (.s (.sl 5 15 0 k 0)), .d (.int .i64 i)]

noncomputable def t74 (L : LSt) (k : Nat) (pg : Nat → List Value) (n : Nat) (f : Nat → Mi) (now id tmo : Int) (m : Mi) : T (AV × Heap) := callT Try.prog (entL e74) 1 74 [.e (.s (.ptr 0 0)), .e (.agg m.cells)] (rH L k pg n (miF f) now id tmo) fun r H' => .ret (r, H')

theorem t74_eq (L : LSt) (k : Nat) (pg : Nat → List Value) (n : Nat) (f : Nat → Mi) (now id tmo : Int) (m : Mi) : t74 L k pg n f now id tmo m =
 T.code 4 (loopAt Try.prog 74 0).loop
 { fr := [AV.e (EV.s (SV.ptr 0 0)), AV.e (EV.agg [SV.d (Value.int IntKind.i64 m.id), SV.d (Value.int IntKind.i64 m.frm), SV.d (Value.int IntKind.i64 m.to), SV.d (Value.int IntKind.i64 m.sent), SV.d (Value.int IntKind.i64 m.acked), SV.d (Value.int IntKind.i64 m.lost), SV.d (Value.int IntKind.i64 m.packets), SV.d (Value.int IntKind.i64 m.hits), SV.d (Value.int IntKind.i64 m.drops), SV.d (Value.int IntKind.i64 m.n), SV.d (Value.int IntKind.i64 m.sumT), SV.d (Value.int IntKind.i64 m.sumR), SV.d (Value.int IntKind.i64 m.sumTT), SV.d (Value.int IntKind.i64 m.sumTR), SV.d (Value.int IntKind.i64 m.sumRR)]), AV.tup [], AV.e (EV.s (SV.ptr 4 0)), AV.e (EV.s (SV.c (Value.slice none 0 0))), AV.e (EV.s (SV.c (Value.int IntKind.i64 0))), AV.tup [], AV.tup [], AV.tup [], AV.tup [], AV.tup [], AV.tup [], AV.tup [], AV.tup [], AV.tup [], AV.tup [], AV.tup [], AV.tup [], AV.tup [], AV.tup [], AV.tup [], AV.tup [], AV.tup [], AV.tup [], AV.tup [], AV.tup [], AV.tup [], AV.tup [], AV.tup [], AV.tup [], AV.tup [], AV.tup [], AV.tup [], AV.tup [], AV.tup [], AV.tup [], AV.tup [], AV.tup [], AV.tup [], AV.tup [], AV.tup [], AV.tup [], AV.tup [], AV.tup []], H := [AB.cells 72 [SV.ptr 1 0, SV.sl 3 15 0 n 0, SV.d (Value.int IntKind.i64 id), SV.d (Value.int IntKind.i64 tmo), SV.d (Value.int IntKind.i64 now)], AB.cells 44 [SV.d (Value.int IntKind.i64 L.room), SV.d (Value.int IntKind.u64 L.first), SV.d (Value.int IntKind.u64 L.next), SV.d (Value.int IntKind.i64 L.last), SV.sl 2 4 0 k 0], AB.row 36 4 k pg, AB.row 80 15 n (miF f), AB.cells 80 [SV.d (Value.int IntKind.i64 m.id), SV.d (Value.int IntKind.i64 m.frm), SV.d (Value.int IntKind.i64 m.to), SV.d (Value.int IntKind.i64 m.sent), SV.d (Value.int IntKind.i64 m.acked), SV.d (Value.int IntKind.i64 m.lost), SV.d (Value.int IntKind.i64 m.packets), SV.d (Value.int IntKind.i64 m.hits), SV.d (Value.int IntKind.i64 m.drops), SV.d (Value.int IntKind.i64 m.n), SV.d (Value.int IntKind.i64 m.sumT), SV.d (Value.int IntKind.i64 m.sumR), SV.d (Value.int IntKind.i64 m.sumTT), SV.d (Value.int IntKind.i64 m.sumTR), SV.d (Value.int IntKind.i64 m.sumRR)]] : St }
 (T.go [] (t74 L k pg n f now id tmo m)).kont := by kernel_rfl


noncomputable def t74b (L : LSt) (k : Nat) (pg : Nat → List Value) (n : Nat) (f : Nat → Mi) (now id tmo : Int) (m : Mi) (c : Nat) (g : Nat → List Value) (i : Int) (vs : Nat → Value) : T (Exit × List AV × Heap) := bodyT Try.prog e74 0 o74 4 (loopAt Try.prog 74 0) [0, 3, 4, 5] 44 (x74 c i) (rH L k pg n (miF f) now id tmo ++ [.cells 80 m.cells, .row 80 15 c g]) vs

theorem t74b_eq (L : LSt) (k : Nat) (pg : Nat → List Value) (n : Nat) (f : Nat → Mi) (now id tmo : Int) (m : Mi) (c : Nat) (g : Nat → List Value) (i : Int) (vs : Nat → Value) : t74b L k pg n f now id tmo m c g i vs =
 T.ite (decide (i < (↑n : Int)))
 (T.need (0 ≤ i ∧ i < (↑n : Int))
 (T.need (0 + i.toNat < n)
 (T.ite ((f (0 + i.toNat)).id == m.id)
 (T.need
 (0 + c ≤ c ∧
 1 ≤
 (chunksOf 15 1
 [Value.int IntKind.i64 m.id, Value.int IntKind.i64 m.frm, Value.int IntKind.i64 m.to,
 Value.int IntKind.i64 m.sent, Value.int IntKind.i64 m.acked, Value.int IntKind.i64 m.lost,
 Value.int IntKind.i64 m.packets, Value.int IntKind.i64 m.hits, Value.int IntKind.i64 m.drops,
 Value.int IntKind.i64 m.n, Value.int IntKind.i64 m.sumT, Value.int IntKind.i64 m.sumR,
 Value.int IntKind.i64 m.sumTT, Value.int IntKind.i64 m.sumTR,
 Value.int IntKind.i64 m.sumRR]).length ∧
 c + 1 ≤ most)
 (T.ret
 (Exit.normal,
 [AV.e (EV.s (SV.ptr 0 0)), AV.e (EV.s (SV.ptr 4 0)), AV.e (EV.s (SV.sl 7 15 0 (c + 1) 0)),
 AV.e (EV.s (SV.d (Value.int IntKind.i64 (IntKind.i64.wrap (i + 1)))))],
 [AB.cells 72
 [SV.ptr 1 0, SV.sl 3 15 0 n 0, SV.d (Value.int IntKind.i64 id), SV.d (Value.int IntKind.i64 tmo),
 SV.d (Value.int IntKind.i64 now)],
 AB.cells 44
 [SV.d (Value.int IntKind.i64 L.room), SV.d (Value.int IntKind.u64 L.first),
 SV.d (Value.int IntKind.u64 L.next), SV.d (Value.int IntKind.i64 L.last), SV.sl 2 4 0 k 0],
 AB.row 36 4 k pg, AB.row 80 15 n (miF f),
 AB.cells 80
 [SV.d (Value.int IntKind.i64 m.id), SV.d (Value.int IntKind.i64 m.frm),
 SV.d (Value.int IntKind.i64 m.to), SV.d (Value.int IntKind.i64 m.sent),
 SV.d (Value.int IntKind.i64 m.acked), SV.d (Value.int IntKind.i64 m.lost),
 SV.d (Value.int IntKind.i64 m.packets), SV.d (Value.int IntKind.i64 m.hits),
 SV.d (Value.int IntKind.i64 m.drops), SV.d (Value.int IntKind.i64 m.n),
 SV.d (Value.int IntKind.i64 m.sumT), SV.d (Value.int IntKind.i64 m.sumR),
 SV.d (Value.int IntKind.i64 m.sumTT), SV.d (Value.int IntKind.i64 m.sumTR),
 SV.d (Value.int IntKind.i64 m.sumRR)],
 AB.dead,
 AB.lit 80 15
 [[Value.int IntKind.i64 m.id, Value.int IntKind.i64 m.frm, Value.int IntKind.i64 m.to,
 Value.int IntKind.i64 m.sent, Value.int IntKind.i64 m.acked, Value.int IntKind.i64 m.lost,
 Value.int IntKind.i64 m.packets, Value.int IntKind.i64 m.hits, Value.int IntKind.i64 m.drops,
 Value.int IntKind.i64 m.n, Value.int IntKind.i64 m.sumT, Value.int IntKind.i64 m.sumR,
 Value.int IntKind.i64 m.sumTT, Value.int IntKind.i64 m.sumTR, Value.int IntKind.i64 m.sumRR]],
 AB.row 80 15 (c + 1)
 (appendG g 0 c
 (fun j =>
 (chunksOf 15 1
 [Value.int IntKind.i64 m.id, Value.int IntKind.i64 m.frm, Value.int IntKind.i64 m.to,
 Value.int IntKind.i64 m.sent, Value.int IntKind.i64 m.acked, Value.int IntKind.i64 m.lost,
 Value.int IntKind.i64 m.packets, Value.int IntKind.i64 m.hits,
 Value.int IntKind.i64 m.drops, Value.int IntKind.i64 m.n, Value.int IntKind.i64 m.sumT,
 Value.int IntKind.i64 m.sumR, Value.int IntKind.i64 m.sumTT,
 Value.int IntKind.i64 m.sumTR, Value.int IntKind.i64 m.sumRR]).getD
 j [])
 0)])))
 (T.need (0 ≤ i ∧ i < (↑n : Int))
 (T.need (0 + i.toNat < n)
 (T.need
 (0 + c ≤ c ∧
 1 ≤
 (chunksOf 15 1
 [Value.int IntKind.i64 (f (0 + i.toNat)).id, Value.int IntKind.i64 (f (0 + i.toNat)).frm,
 Value.int IntKind.i64 (f (0 + i.toNat)).to, Value.int IntKind.i64 (f (0 + i.toNat)).sent,
 Value.int IntKind.i64 (f (0 + i.toNat)).acked, Value.int IntKind.i64 (f (0 + i.toNat)).lost,
 Value.int IntKind.i64 (f (0 + i.toNat)).packets, Value.int IntKind.i64 (f (0 + i.toNat)).hits,
 Value.int IntKind.i64 (f (0 + i.toNat)).drops, Value.int IntKind.i64 (f (0 + i.toNat)).n,
 Value.int IntKind.i64 (f (0 + i.toNat)).sumT, Value.int IntKind.i64 (f (0 + i.toNat)).sumR,
 Value.int IntKind.i64 (f (0 + i.toNat)).sumTT, Value.int IntKind.i64 (f (0 + i.toNat)).sumTR,
 Value.int IntKind.i64 (f (0 + i.toNat)).sumRR]).length ∧
 c + 1 ≤ most)
 (T.ret
 (Exit.normal,
 [AV.e (EV.s (SV.ptr 0 0)), AV.e (EV.s (SV.ptr 4 0)), AV.e (EV.s (SV.sl 7 15 0 (c + 1) 0)),
 AV.e (EV.s (SV.d (Value.int IntKind.i64 (IntKind.i64.wrap (i + 1)))))],
 [AB.cells 72
 [SV.ptr 1 0, SV.sl 3 15 0 n 0, SV.d (Value.int IntKind.i64 id), SV.d (Value.int IntKind.i64 tmo),
 SV.d (Value.int IntKind.i64 now)],
 AB.cells 44
 [SV.d (Value.int IntKind.i64 L.room), SV.d (Value.int IntKind.u64 L.first),
 SV.d (Value.int IntKind.u64 L.next), SV.d (Value.int IntKind.i64 L.last), SV.sl 2 4 0 k 0],
 AB.row 36 4 k pg, AB.row 80 15 n (miF f),
 AB.cells 80
 [SV.d (Value.int IntKind.i64 m.id), SV.d (Value.int IntKind.i64 m.frm),
 SV.d (Value.int IntKind.i64 m.to), SV.d (Value.int IntKind.i64 m.sent),
 SV.d (Value.int IntKind.i64 m.acked), SV.d (Value.int IntKind.i64 m.lost),
 SV.d (Value.int IntKind.i64 m.packets), SV.d (Value.int IntKind.i64 m.hits),
 SV.d (Value.int IntKind.i64 m.drops), SV.d (Value.int IntKind.i64 m.n),
 SV.d (Value.int IntKind.i64 m.sumT), SV.d (Value.int IntKind.i64 m.sumR),
 SV.d (Value.int IntKind.i64 m.sumTT), SV.d (Value.int IntKind.i64 m.sumTR),
 SV.d (Value.int IntKind.i64 m.sumRR)],
 AB.dead,
 AB.lit 80 15
 [[Value.int IntKind.i64 (f (0 + i.toNat)).id, Value.int IntKind.i64 (f (0 + i.toNat)).frm,
 Value.int IntKind.i64 (f (0 + i.toNat)).to, Value.int IntKind.i64 (f (0 + i.toNat)).sent,
 Value.int IntKind.i64 (f (0 + i.toNat)).acked, Value.int IntKind.i64 (f (0 + i.toNat)).lost,
 Value.int IntKind.i64 (f (0 + i.toNat)).packets, Value.int IntKind.i64 (f (0 + i.toNat)).hits,
 Value.int IntKind.i64 (f (0 + i.toNat)).drops, Value.int IntKind.i64 (f (0 + i.toNat)).n,
 Value.int IntKind.i64 (f (0 + i.toNat)).sumT, Value.int IntKind.i64 (f (0 + i.toNat)).sumR,
 Value.int IntKind.i64 (f (0 + i.toNat)).sumTT, Value.int IntKind.i64 (f (0 + i.toNat)).sumTR,
 Value.int IntKind.i64 (f (0 + i.toNat)).sumRR]],
 AB.row 80 15 (c + 1)
 (appendG g 0 c
 (fun j =>
 (chunksOf 15 1
 [Value.int IntKind.i64 (f (0 + i.toNat)).id,
 Value.int IntKind.i64 (f (0 + i.toNat)).frm,
 Value.int IntKind.i64 (f (0 + i.toNat)).to,
 Value.int IntKind.i64 (f (0 + i.toNat)).sent,
 Value.int IntKind.i64 (f (0 + i.toNat)).acked,
 Value.int IntKind.i64 (f (0 + i.toNat)).lost,
 Value.int IntKind.i64 (f (0 + i.toNat)).packets,
 Value.int IntKind.i64 (f (0 + i.toNat)).hits,
 Value.int IntKind.i64 (f (0 + i.toNat)).drops,
 Value.int IntKind.i64 (f (0 + i.toNat)).n,
 Value.int IntKind.i64 (f (0 + i.toNat)).sumT,
 Value.int IntKind.i64 (f (0 + i.toNat)).sumR,
 Value.int IntKind.i64 (f (0 + i.toNat)).sumTT,
 Value.int IntKind.i64 (f (0 + i.toNat)).sumTR,
 Value.int IntKind.i64 (f (0 + i.toNat)).sumRR]).getD
 j [])
 0)]))))))))
 (T.ret
 (Exit.exit 0,
 [AV.e (EV.s (SV.ptr 0 0)), AV.e (EV.s (SV.ptr 4 0)), AV.e (EV.s (SV.sl 5 15 0 c 0)),
 AV.e (EV.s (SV.d (Value.int IntKind.i64 i)))],
 [AB.cells 72
 [SV.ptr 1 0, SV.sl 3 15 0 n 0, SV.d (Value.int IntKind.i64 id), SV.d (Value.int IntKind.i64 tmo),
 SV.d (Value.int IntKind.i64 now)],
 AB.cells 44
 [SV.d (Value.int IntKind.i64 L.room), SV.d (Value.int IntKind.u64 L.first),
 SV.d (Value.int IntKind.u64 L.next), SV.d (Value.int IntKind.i64 L.last), SV.sl 2 4 0 k 0],
 AB.row 36 4 k pg, AB.row 80 15 n (miF f),
 AB.cells 80
 [SV.d (Value.int IntKind.i64 m.id), SV.d (Value.int IntKind.i64 m.frm), SV.d (Value.int IntKind.i64 m.to),
 SV.d (Value.int IntKind.i64 m.sent), SV.d (Value.int IntKind.i64 m.acked),
 SV.d (Value.int IntKind.i64 m.lost), SV.d (Value.int IntKind.i64 m.packets),
 SV.d (Value.int IntKind.i64 m.hits), SV.d (Value.int IntKind.i64 m.drops), SV.d (Value.int IntKind.i64 m.n),
 SV.d (Value.int IntKind.i64 m.sumT), SV.d (Value.int IntKind.i64 m.sumR),
 SV.d (Value.int IntKind.i64 m.sumTT), SV.d (Value.int IntKind.i64 m.sumTR),
 SV.d (Value.int IntKind.i64 m.sumRR)],
 AB.row 80 15 c g])) := by kernel_rfl


noncomputable def t74k (L : LSt) (k : Nat) (pg : Nat → List Value) (n : Nat) (f : Nat → Mi) (now id tmo : Int) (m : Mi) (c : Nat) (g : Nat → List Value) (i : Int) (vs : Nat → Value) : T (AV × Heap) := ((t74 L k pg n f now id tmo m).go []).kont (.exit 0) ⟨fat [0, 3, 4, 5] vs (x74 c i) 44 0, rH L k pg n (miF f) now id tmo ++ [.cells 80 m.cells, .row 80 15 c g]⟩

theorem t74k_eq (L : LSt) (k : Nat) (pg : Nat → List Value) (n : Nat) (f : Nat → Mi) (now id tmo : Int) (m : Mi) (c : Nat) (g : Nat → List Value) (i : Int) (vs : Nat → Value) : t74k L k pg n f now id tmo m c g i vs =
 T.ret
 (AV.tup [],
 [AB.cells 72
 [SV.ptr 1 0, SV.sl 5 15 0 c 0, SV.d (Value.int IntKind.i64 id), SV.d (Value.int IntKind.i64 tmo),
 SV.d (Value.int IntKind.i64 now)],
 AB.cells 44
 [SV.d (Value.int IntKind.i64 L.room), SV.d (Value.int IntKind.u64 L.first), SV.d (Value.int IntKind.u64 L.next),
 SV.d (Value.int IntKind.i64 L.last), SV.sl 2 4 0 k 0],
 AB.row 36 4 k pg, AB.row 80 15 n (miF f),
 AB.cells 80
 [SV.d (Value.int IntKind.i64 m.id), SV.d (Value.int IntKind.i64 m.frm), SV.d (Value.int IntKind.i64 m.to),
 SV.d (Value.int IntKind.i64 m.sent), SV.d (Value.int IntKind.i64 m.acked),
 SV.d (Value.int IntKind.i64 m.lost), SV.d (Value.int IntKind.i64 m.packets),
 SV.d (Value.int IntKind.i64 m.hits), SV.d (Value.int IntKind.i64 m.drops), SV.d (Value.int IntKind.i64 m.n),
 SV.d (Value.int IntKind.i64 m.sumT), SV.d (Value.int IntKind.i64 m.sumR),
 SV.d (Value.int IntKind.i64 m.sumTT), SV.d (Value.int IntKind.i64 m.sumTR),
 SV.d (Value.int IntKind.i64 m.sumRR)],
 AB.row 80 15 c g]) := by kernel_rfl


theorem kl74 : codeB o74 (loopAt Try.prog 74 0) = true := by kernel_rfl

def x78 (a : Int) (i : Int) : List AV := [.e (.s (.ptr 0 0)), .d (.int .i64 a), .e (.s (.ptr 4 0)), .d (.int .i64 i)]

noncomputable def t78 (L : LSt) (k : Nat) (pg : Nat → List Value) (n : Nat) (f : Nat → Mi) (now id tmo : Int) (a : Int) : T (AV × Heap) := callT Try.prog (entL e78) 1 78 [.e (.s (.ptr 0 0)), .d (.int .i64 a)] (rH L k pg n (miF f) now id tmo) fun r H' => .ret (r, H')

theorem t78_eq (L : LSt) (k : Nat) (pg : Nat → List Value) (n : Nat) (f : Nat → Mi) (now id tmo : Int) (a : Int) : t78 L k pg n f now id tmo a =
 T.code 4 (loopAt Try.prog 78 0).loop
 { fr := [AV.e (EV.s (SV.ptr 0 0)), AV.e (EV.s (SV.d (Value.int IntKind.i64 a))), AV.tup [], AV.tup [], AV.e (EV.s (SV.ptr 4 0)), AV.e (EV.s (SV.c (Value.int IntKind.i64 0))), AV.tup [], AV.tup [], AV.tup [], AV.tup [], AV.tup [], AV.tup [], AV.tup [], AV.tup [], AV.tup [], AV.tup [], AV.tup [], AV.tup [], AV.tup [], AV.tup [], AV.tup [], AV.tup [], AV.tup [], AV.tup [], AV.tup [], AV.tup [], AV.tup [], AV.tup [], AV.tup [], AV.tup [], AV.tup [], AV.tup [], AV.tup []], H := [AB.cells 72 [SV.ptr 1 0, SV.sl 3 15 0 n 0, SV.d (Value.int IntKind.i64 id), SV.d (Value.int IntKind.i64 tmo), SV.d (Value.int IntKind.i64 now)], AB.cells 44 [SV.d (Value.int IntKind.i64 L.room), SV.d (Value.int IntKind.u64 L.first), SV.d (Value.int IntKind.u64 L.next), SV.d (Value.int IntKind.i64 L.last), SV.sl 2 4 0 k 0], AB.row 36 4 k pg, AB.row 80 15 n (miF f), AB.cells 80 [SV.c (Value.int IntKind.i64 0), SV.c (Value.int IntKind.i64 0), SV.c (Value.int IntKind.i64 0), SV.c (Value.int IntKind.i64 0), SV.c (Value.int IntKind.i64 0), SV.c (Value.int IntKind.i64 0), SV.c (Value.int IntKind.i64 0), SV.c (Value.int IntKind.i64 0), SV.c (Value.int IntKind.i64 0), SV.c (Value.int IntKind.i64 0), SV.c (Value.int IntKind.i64 0), SV.c (Value.int IntKind.i64 0), SV.c (Value.int IntKind.i64 0), SV.c (Value.int IntKind.i64 0), SV.c (Value.int IntKind.i64 0)]] : St }
 (T.go [] (t78 L k pg n f now id tmo a)).kont := by kernel_rfl


noncomputable def t78b (L : LSt) (k : Nat) (pg : Nat → List Value) (n : Nat) (f : Nat → Mi) (now id tmo : Int) (a : Int) (m : Mi) (i : Int) (vs : Nat → Value) : T (Exit × List AV × Heap) := bodyT Try.prog e78 0 oN 4 (loopAt Try.prog 78 0) [0, 1, 4, 5] 33 (x78 a i) (rH L k pg n (miF f) now id tmo ++ [.cells 80 m.cells]) vs

theorem t78b_eq (L : LSt) (k : Nat) (pg : Nat → List Value) (n : Nat) (f : Nat → Mi) (now id tmo : Int) (a : Int) (m : Mi) (i : Int) (vs : Nat → Value) : t78b L k pg n f now id tmo a m i vs =
 T.ite (decide (i < (↑n : Int)))
 (T.need (0 ≤ i ∧ i < (↑n : Int))
 (T.need (0 + i.toNat < n)
 (T.ite ((f (0 + i.toNat)).id == a)
 (T.need (0 ≤ i ∧ i < (↑n : Int))
 (T.need (0 + i.toNat < n)
 (T.ret
 (Exit.ret,
 [AV.e (EV.s (SV.ptr 0 0)), AV.e (EV.s (SV.d (Value.int IntKind.i64 a))), AV.e (EV.s (SV.ptr 4 0)),
 AV.e (EV.s (SV.d (Value.int IntKind.i64 i)))],
 [AB.cells 72
 [SV.ptr 1 0, SV.sl 3 15 0 n 0, SV.d (Value.int IntKind.i64 id), SV.d (Value.int IntKind.i64 tmo),
 SV.d (Value.int IntKind.i64 now)],
 AB.cells 44
 [SV.d (Value.int IntKind.i64 L.room), SV.d (Value.int IntKind.u64 L.first),
 SV.d (Value.int IntKind.u64 L.next), SV.d (Value.int IntKind.i64 L.last), SV.sl 2 4 0 k 0],
 AB.row 36 4 k pg, AB.row 80 15 n (miF f),
 AB.cells 80
 [SV.d (Value.int IntKind.i64 (f (0 + i.toNat)).id),
 SV.d (Value.int IntKind.i64 (f (0 + i.toNat)).frm),
 SV.d (Value.int IntKind.i64 (f (0 + i.toNat)).to),
 SV.d (Value.int IntKind.i64 (f (0 + i.toNat)).sent),
 SV.d (Value.int IntKind.i64 (f (0 + i.toNat)).acked),
 SV.d (Value.int IntKind.i64 (f (0 + i.toNat)).lost),
 SV.d (Value.int IntKind.i64 (f (0 + i.toNat)).packets),
 SV.d (Value.int IntKind.i64 (f (0 + i.toNat)).hits),
 SV.d (Value.int IntKind.i64 (f (0 + i.toNat)).drops),
 SV.d (Value.int IntKind.i64 (f (0 + i.toNat)).n),
 SV.d (Value.int IntKind.i64 (f (0 + i.toNat)).sumT),
 SV.d (Value.int IntKind.i64 (f (0 + i.toNat)).sumR),
 SV.d (Value.int IntKind.i64 (f (0 + i.toNat)).sumTT),
 SV.d (Value.int IntKind.i64 (f (0 + i.toNat)).sumTR),
 SV.d (Value.int IntKind.i64 (f (0 + i.toNat)).sumRR)]]))))
 (T.ret
 (Exit.normal,
 [AV.e (EV.s (SV.ptr 0 0)), AV.e (EV.s (SV.d (Value.int IntKind.i64 a))), AV.e (EV.s (SV.ptr 4 0)),
 AV.e (EV.s (SV.d (Value.int IntKind.i64 (IntKind.i64.wrap (i + 1)))))],
 [AB.cells 72
 [SV.ptr 1 0, SV.sl 3 15 0 n 0, SV.d (Value.int IntKind.i64 id), SV.d (Value.int IntKind.i64 tmo),
 SV.d (Value.int IntKind.i64 now)],
 AB.cells 44
 [SV.d (Value.int IntKind.i64 L.room), SV.d (Value.int IntKind.u64 L.first),
 SV.d (Value.int IntKind.u64 L.next), SV.d (Value.int IntKind.i64 L.last), SV.sl 2 4 0 k 0],
 AB.row 36 4 k pg, AB.row 80 15 n (miF f),
 AB.cells 80
 [SV.d (Value.int IntKind.i64 m.id), SV.d (Value.int IntKind.i64 m.frm),
 SV.d (Value.int IntKind.i64 m.to), SV.d (Value.int IntKind.i64 m.sent),
 SV.d (Value.int IntKind.i64 m.acked), SV.d (Value.int IntKind.i64 m.lost),
 SV.d (Value.int IntKind.i64 m.packets), SV.d (Value.int IntKind.i64 m.hits),
 SV.d (Value.int IntKind.i64 m.drops), SV.d (Value.int IntKind.i64 m.n),
 SV.d (Value.int IntKind.i64 m.sumT), SV.d (Value.int IntKind.i64 m.sumR),
 SV.d (Value.int IntKind.i64 m.sumTT), SV.d (Value.int IntKind.i64 m.sumTR),
 SV.d (Value.int IntKind.i64 m.sumRR)]])))))
 (T.ret
 (Exit.exit 0,
 [AV.e (EV.s (SV.ptr 0 0)), AV.e (EV.s (SV.d (Value.int IntKind.i64 a))), AV.e (EV.s (SV.ptr 4 0)),
 AV.e (EV.s (SV.d (Value.int IntKind.i64 i)))],
 [AB.cells 72
 [SV.ptr 1 0, SV.sl 3 15 0 n 0, SV.d (Value.int IntKind.i64 id), SV.d (Value.int IntKind.i64 tmo),
 SV.d (Value.int IntKind.i64 now)],
 AB.cells 44
 [SV.d (Value.int IntKind.i64 L.room), SV.d (Value.int IntKind.u64 L.first),
 SV.d (Value.int IntKind.u64 L.next), SV.d (Value.int IntKind.i64 L.last), SV.sl 2 4 0 k 0],
 AB.row 36 4 k pg, AB.row 80 15 n (miF f),
 AB.cells 80
 [SV.d (Value.int IntKind.i64 m.id), SV.d (Value.int IntKind.i64 m.frm), SV.d (Value.int IntKind.i64 m.to),
 SV.d (Value.int IntKind.i64 m.sent), SV.d (Value.int IntKind.i64 m.acked),
 SV.d (Value.int IntKind.i64 m.lost), SV.d (Value.int IntKind.i64 m.packets),
 SV.d (Value.int IntKind.i64 m.hits), SV.d (Value.int IntKind.i64 m.drops), SV.d (Value.int IntKind.i64 m.n),
 SV.d (Value.int IntKind.i64 m.sumT), SV.d (Value.int IntKind.i64 m.sumR),
 SV.d (Value.int IntKind.i64 m.sumTT), SV.d (Value.int IntKind.i64 m.sumTR),
 SV.d (Value.int IntKind.i64 m.sumRR)]])) := by kernel_rfl


noncomputable def t78k (L : LSt) (k : Nat) (pg : Nat → List Value) (n : Nat) (f : Nat → Mi) (now id tmo : Int) (a : Int) (m : Mi) (i : Int) (vs : Nat → Value) : T (AV × Heap) := ((t78 L k pg n f now id tmo a).go []).kont (.exit 0) ⟨fat [0, 1, 4, 5] vs (x78 a i) 33 0, rH L k pg n (miF f) now id tmo ++ [.cells 80 m.cells]⟩

theorem t78k_eq (L : LSt) (k : Nat) (pg : Nat → List Value) (n : Nat) (f : Nat → Mi) (now id tmo : Int) (a : Int) (m : Mi) (i : Int) (vs : Nat → Value) : t78k L k pg n f now id tmo a m i vs =
 T.ret
 (AV.e
 (EV.agg
 [SV.c (Value.int IntKind.i64 0), SV.c (Value.int IntKind.i64 0), SV.c (Value.int IntKind.i64 0),
 SV.c (Value.int IntKind.i64 0), SV.c (Value.int IntKind.i64 0), SV.c (Value.int IntKind.i64 0),
 SV.c (Value.int IntKind.i64 0), SV.c (Value.int IntKind.i64 0), SV.c (Value.int IntKind.i64 0),
 SV.c (Value.int IntKind.i64 0), SV.c (Value.int IntKind.i64 0), SV.c (Value.int IntKind.i64 0),
 SV.c (Value.int IntKind.i64 0), SV.c (Value.int IntKind.i64 0), SV.c (Value.int IntKind.i64 0)]),
 [AB.cells 72
 [SV.ptr 1 0, SV.sl 3 15 0 n 0, SV.d (Value.int IntKind.i64 id), SV.d (Value.int IntKind.i64 tmo),
 SV.d (Value.int IntKind.i64 now)],
 AB.cells 44
 [SV.d (Value.int IntKind.i64 L.room), SV.d (Value.int IntKind.u64 L.first), SV.d (Value.int IntKind.u64 L.next),
 SV.d (Value.int IntKind.i64 L.last), SV.sl 2 4 0 k 0],
 AB.row 36 4 k pg, AB.row 80 15 n (miF f)]) := by kernel_rfl


noncomputable def t78r (L : LSt) (k : Nat) (pg : Nat → List Value) (n : Nat) (f : Nat → Mi) (now id tmo : Int) (a : Int) (m : Mi) (i : Int) (vs : Nat → Value) : T (AV × Heap) := ((t78 L k pg n f now id tmo a).go []).kont .ret ⟨fat [0, 1, 4, 5] vs (x78 a i) 33 0, rH L k pg n (miF f) now id tmo ++ [.cells 80 m.cells]⟩

theorem t78r_eq (L : LSt) (k : Nat) (pg : Nat → List Value) (n : Nat) (f : Nat → Mi) (now id tmo : Int) (a : Int) (m : Mi) (i : Int) (vs : Nat → Value) : t78r L k pg n f now id tmo a m i vs =
 T.ret
 (AV.e
 (EV.agg
 [SV.d (Value.int IntKind.i64 m.id), SV.d (Value.int IntKind.i64 m.frm), SV.d (Value.int IntKind.i64 m.to),
 SV.d (Value.int IntKind.i64 m.sent), SV.d (Value.int IntKind.i64 m.acked),
 SV.d (Value.int IntKind.i64 m.lost), SV.d (Value.int IntKind.i64 m.packets),
 SV.d (Value.int IntKind.i64 m.hits), SV.d (Value.int IntKind.i64 m.drops), SV.d (Value.int IntKind.i64 m.n),
 SV.d (Value.int IntKind.i64 m.sumT), SV.d (Value.int IntKind.i64 m.sumR),
 SV.d (Value.int IntKind.i64 m.sumTT), SV.d (Value.int IntKind.i64 m.sumTR),
 SV.d (Value.int IntKind.i64 m.sumRR)]),
 [AB.cells 72
 [SV.ptr 1 0, SV.sl 3 15 0 n 0, SV.d (Value.int IntKind.i64 id), SV.d (Value.int IntKind.i64 tmo),
 SV.d (Value.int IntKind.i64 now)],
 AB.cells 44
 [SV.d (Value.int IntKind.i64 L.room), SV.d (Value.int IntKind.u64 L.first), SV.d (Value.int IntKind.u64 L.next),
 SV.d (Value.int IntKind.i64 L.last), SV.sl 2 4 0 k 0],
 AB.row 36 4 k pg, AB.row 80 15 n (miF f)]) := by kernel_rfl


theorem kl78 : codeB oN (loopAt Try.prog 78 0) = true := by kernel_rfl

end Go.Proofs.Ythckkoledhjmeaa.Ev
