/-
  The abstract evaluator's trees: books, the program's.
-/
import Derived.Test.YthckkoledhjmeaaBL
namespace Go.Proofs.Ythckkoledhjmeaa.Ev
open Go

/-- The program's books in memory. -/
def bH (L : LSt) (n : Nat) (g : Nat → List Value) (now id tmo : Int) : Heap :=
  [.cells 95 [.ptr 1 0, .d (.int .i64 now), .sl 3 15 0 n 0, .d (.int .i64 id), .d (.int .i64 tmo)], .cells 86 (lc L 2), .pm L.es, .row 80 15 n g]

def e32 : List (Nat × Ent) := [(32, .body o32 0), (56, .body oN 0), (81, .body oN 0), (57, .summ sOpen), (58, .body o58 0), (59, .summ sClose)]
def e33 : List (Nat × Ent) := [(33, .body o33 0), (56, .body oN 0), (81, .body oN 0), (60, .summ sSnd), (58, .body o58 0), (12, .summ s12)]
def e34 : List (Nat × Ent) := [(34, .body oN 0), (61, .body o61 0), (62, .body oN 0), (56, .body oN 0), (81, .body oN 0), (14, .summ s14), (64, .body o64 2), (84, .body oN 0), (71, .summ sAck)]
def e35 : List (Nat × Ent) := [(35, .body oN 0), (61, .body o61 0), (63, .body oN 0), (56, .body oN 0), (81, .body oN 0), (14, .summ s14), (64, .body o64 2), (85, .body oN 0), (70, .summ sLose)]
def e37 : List (Nat × Ent) := [(37, .body oN 0), (38, .summ sDone), (49, .summ s49)]
def e28 : List (Nat × Ent) := [(28, .body oN 0), (49, .summ s49)]

noncomputable def t32 (L : LSt) (n : Nat) (f : Nat → Mi) (now id tmo at' : Int) : T (AV × Heap) := callT Try.prog (entL e32) 4 32 [.e (.s (.ptr 0 0)), .d (.int .i64 at')] (bH L n (miF f) now id tmo) fun r H' => .ret (r, H')

theorem t32_eq (L : LSt) (n : Nat) (f : Nat → Mi) (now id tmo at' : Int) : t32 L n f now id tmo at' =
 T.ite (decide (at' < now))
 (T.ret
 (AV.tup [EV.s (SV.c (Value.int IntKind.i64 0)), EV.s (SV.c (Value.int IntKind.i64 10))],
 [AB.cells 95
 [SV.ptr 1 0, SV.d (Value.int IntKind.i64 now), SV.sl 3 15 0 n 0, SV.d (Value.int IntKind.i64 id),
 SV.d (Value.int IntKind.i64 tmo)],
 AB.cells 86
 [SV.d (Value.int IntKind.i64 L.room), SV.d (Value.int IntKind.u64 L.first),
 SV.d (Value.int IntKind.u64 L.next), SV.d (Value.int IntKind.i64 L.last), SV.mp 2],
 AB.pm L.es, AB.row 80 15 n (miF f)]))
 (T.ite (decide (at' > 1099511627776))
 (T.ret
 (AV.tup [EV.s (SV.c (Value.int IntKind.i64 0)), EV.s (SV.c (Value.int IntKind.i64 10))],
 [AB.cells 95
 [SV.ptr 1 0, SV.d (Value.int IntKind.i64 now), SV.sl 3 15 0 n 0, SV.d (Value.int IntKind.i64 id),
 SV.d (Value.int IntKind.i64 tmo)],
 AB.cells 86
 [SV.d (Value.int IntKind.i64 L.room), SV.d (Value.int IntKind.u64 L.first),
 SV.d (Value.int IntKind.u64 L.next), SV.d (Value.int IntKind.i64 L.last), SV.mp 2],
 AB.pm L.es, AB.row 80 15 n (miF f)]))
 (T.ite ((↑n : Int) == 64)
 (T.ret
 (AV.tup [EV.s (SV.c (Value.int IntKind.i64 0)), EV.s (SV.c (Value.int IntKind.i64 2))],
 [AB.cells 95
 [SV.ptr 1 0, SV.d (Value.int IntKind.i64 now), SV.sl 3 15 0 n 0, SV.d (Value.int IntKind.i64 id),
 SV.d (Value.int IntKind.i64 tmo)],
 AB.cells 86
 [SV.d (Value.int IntKind.i64 L.room), SV.d (Value.int IntKind.u64 L.first),
 SV.d (Value.int IntKind.u64 L.next), SV.d (Value.int IntKind.i64 L.last), SV.mp 2],
 AB.pm L.es, AB.row 80 15 n (miF f)]))
 (T.ite (openE id at' == 0)
 (T.ite (decide ((↑n : Int) > 0))
 (T.need (0 ≤ IntKind.i64.wrap ((↑n : Int) - 1) ∧ IntKind.i64.wrap ((↑n : Int) - 1) < (↑n : Int))
 (T.need (0 + (IntKind.i64.wrap ((↑n : Int) - 1)).toNat < n)
 (T.ite (closeE (f (0 + (IntKind.i64.wrap ((↑n : Int) - 1)).toNat)) at' == 0)
 (T.need (0 + (IntKind.i64.wrap ((↑n : Int) - 1)).toNat < n)
 (T.need
 (some
 (AB.cells 95
 [SV.ptr 1 0, SV.d (Value.int IntKind.i64 now), SV.sl 3 15 0 n 0,
 SV.d (Value.int IntKind.i64 id), SV.d (Value.int IntKind.i64 tmo)]) =
 some
 (AB.cells 95
 [SV.ptr 1 0, SV.d (Value.int IntKind.i64 now), SV.sl 3 15 0 n 0,
 SV.d (Value.int IntKind.i64 id), SV.d (Value.int IntKind.i64 tmo)]))
 (T.need
 (0 + n ≤ n ∧
 1 ≤
 (chunksOf 15 1
 [Value.int IntKind.i64 (openM id at').id, Value.int IntKind.i64 (openM id at').frm,
 Value.int IntKind.i64 (openM id at').to, Value.int IntKind.i64 (openM id at').sent,
 Value.int IntKind.i64 (openM id at').acked, Value.int IntKind.i64 (openM id at').lost,
 Value.int IntKind.i64 (openM id at').packets,
 Value.int IntKind.i64 (openM id at').hits, Value.int IntKind.i64 (openM id at').drops,
 Value.int IntKind.i64 (openM id at').n, Value.int IntKind.i64 (openM id at').sumT,
 Value.int IntKind.i64 (openM id at').sumR, Value.int IntKind.i64 (openM id at').sumTT,
 Value.int IntKind.i64 (openM id at').sumTR,
 Value.int IntKind.i64 (openM id at').sumRR]).length ∧
 n + 1 ≤ most)
 (T.ret
 (AV.tup
 [EV.s (SV.d (Value.int IntKind.i64 (openM id at').id)),
 EV.s (SV.c (Value.int IntKind.i64 0))],
 [AB.cells 95
 [SV.ptr 1 0, SV.d (Value.int IntKind.i64 at'), SV.sl 6 15 0 (n + 1) 0,
 SV.d (Value.int IntKind.i64 (IntKind.i64.wrap (id + 1))),
 SV.d (Value.int IntKind.i64 tmo)],
 AB.cells 86
 [SV.d (Value.int IntKind.i64 L.room), SV.d (Value.int IntKind.u64 L.first),
 SV.d (Value.int IntKind.u64 L.next), SV.d (Value.int IntKind.i64 L.last), SV.mp 2],
 AB.pm L.es, AB.dead,
 AB.cells 80
 [SV.d (Value.int IntKind.i64 (openM id at').id),
 SV.d (Value.int IntKind.i64 (openM id at').frm), SV.d (Value.int IntKind.i64 (-1)),
 SV.d (Value.int IntKind.i64 0), SV.d (Value.int IntKind.i64 0),
 SV.d (Value.int IntKind.i64 0), SV.d (Value.int IntKind.i64 0),
 SV.d (Value.int IntKind.i64 0), SV.d (Value.int IntKind.i64 0),
 SV.d (Value.int IntKind.i64 0), SV.d (Value.int IntKind.i64 0),
 SV.d (Value.int IntKind.i64 0), SV.d (Value.int IntKind.i64 0),
 SV.d (Value.int IntKind.i64 0), SV.d (Value.int IntKind.i64 0)],
 AB.lit 80 15
 [[Value.int IntKind.i64 (openM id at').id, Value.int IntKind.i64 (openM id at').frm,
 Value.int IntKind.i64 (-1), Value.int IntKind.i64 0, Value.int IntKind.i64 0,
 Value.int IntKind.i64 0, Value.int IntKind.i64 0, Value.int IntKind.i64 0,
 Value.int IntKind.i64 0, Value.int IntKind.i64 0, Value.int IntKind.i64 0,
 Value.int IntKind.i64 0, Value.int IntKind.i64 0, Value.int IntKind.i64 0,
 Value.int IntKind.i64 0]],
 AB.row 80 15 (n + 1)
 (appendG
 (spliceG (miF f) (0 + (IntKind.i64.wrap ((↑n : Int) - 1)).toNat) 0
 [Value.int IntKind.i64
 (closeM (f (0 + (IntKind.i64.wrap ((↑n : Int) - 1)).toNat)) at').id,
 Value.int IntKind.i64
 (closeM (f (0 + (IntKind.i64.wrap ((↑n : Int) - 1)).toNat)) at').frm,
 Value.int IntKind.i64
 (closeM (f (0 + (IntKind.i64.wrap ((↑n : Int) - 1)).toNat)) at').to,
 Value.int IntKind.i64
 (closeM (f (0 + (IntKind.i64.wrap ((↑n : Int) - 1)).toNat)) at').sent,
 Value.int IntKind.i64
 (closeM (f (0 + (IntKind.i64.wrap ((↑n : Int) - 1)).toNat)) at').acked,
 Value.int IntKind.i64
 (closeM (f (0 + (IntKind.i64.wrap ((↑n : Int) - 1)).toNat)) at').lost,
 Value.int IntKind.i64
 (closeM (f (0 + (IntKind.i64.wrap ((↑n : Int) - 1)).toNat)) at').packets,
 Value.int IntKind.i64
 (closeM (f (0 + (IntKind.i64.wrap ((↑n : Int) - 1)).toNat)) at').hits,
 Value.int IntKind.i64
 (closeM (f (0 + (IntKind.i64.wrap ((↑n : Int) - 1)).toNat)) at').drops,
 Value.int IntKind.i64
 (closeM (f (0 + (IntKind.i64.wrap ((↑n : Int) - 1)).toNat)) at').n,
 Value.int IntKind.i64
 (closeM (f (0 + (IntKind.i64.wrap ((↑n : Int) - 1)).toNat)) at').sumT,
 Value.int IntKind.i64
 (closeM (f (0 + (IntKind.i64.wrap ((↑n : Int) - 1)).toNat)) at').sumR,
 Value.int IntKind.i64
 (closeM (f (0 + (IntKind.i64.wrap ((↑n : Int) - 1)).toNat)) at').sumTT,
 Value.int IntKind.i64
 (closeM (f (0 + (IntKind.i64.wrap ((↑n : Int) - 1)).toNat)) at').sumTR,
 Value.int IntKind.i64
 (closeM (f (0 + (IntKind.i64.wrap ((↑n : Int) - 1)).toNat)) at').sumRR])
 0 n
 (fun j =>
 (chunksOf 15 1
 [Value.int IntKind.i64 (openM id at').id,
 Value.int IntKind.i64 (openM id at').frm,
 Value.int IntKind.i64 (openM id at').to,
 Value.int IntKind.i64 (openM id at').sent,
 Value.int IntKind.i64 (openM id at').acked,
 Value.int IntKind.i64 (openM id at').lost,
 Value.int IntKind.i64 (openM id at').packets,
 Value.int IntKind.i64 (openM id at').hits,
 Value.int IntKind.i64 (openM id at').drops,
 Value.int IntKind.i64 (openM id at').n,
 Value.int IntKind.i64 (openM id at').sumT,
 Value.int IntKind.i64 (openM id at').sumR,
 Value.int IntKind.i64 (openM id at').sumTT,
 Value.int IntKind.i64 (openM id at').sumTR,
 Value.int IntKind.i64 (openM id at').sumRR]).getD
 j [])
 0)])))))
 (T.need (0 + (IntKind.i64.wrap ((↑n : Int) - 1)).toNat < n)
 (T.ite (closeE (f (0 + (IntKind.i64.wrap ((↑n : Int) - 1)).toNat)) at' != 0)
 (T.ret
 (AV.tup
 [EV.s (SV.c (Value.int IntKind.i64 0)),
 EV.s
 (SV.d
 (Value.int IntKind.i64
 (closeE (f (0 + (IntKind.i64.wrap ((↑n : Int) - 1)).toNat)) at')))],
 [AB.cells 95
 [SV.ptr 1 0, SV.d (Value.int IntKind.i64 now), SV.sl 3 15 0 n 0,
 SV.d (Value.int IntKind.i64 id), SV.d (Value.int IntKind.i64 tmo)],
 AB.cells 86
 [SV.d (Value.int IntKind.i64 L.room), SV.d (Value.int IntKind.u64 L.first),
 SV.d (Value.int IntKind.u64 L.next), SV.d (Value.int IntKind.i64 L.last), SV.mp 2],
 AB.pm L.es,
 AB.row 80 15 n
 (spliceG (miF f) (0 + (IntKind.i64.wrap ((↑n : Int) - 1)).toNat) 0
 [Value.int IntKind.i64 Mi.zero.id, Value.int IntKind.i64 Mi.zero.frm,
 Value.int IntKind.i64 Mi.zero.to, Value.int IntKind.i64 Mi.zero.sent,
 Value.int IntKind.i64 Mi.zero.acked, Value.int IntKind.i64 Mi.zero.lost,
 Value.int IntKind.i64 Mi.zero.packets, Value.int IntKind.i64 Mi.zero.hits,
 Value.int IntKind.i64 Mi.zero.drops, Value.int IntKind.i64 Mi.zero.n,
 Value.int IntKind.i64 Mi.zero.sumT, Value.int IntKind.i64 Mi.zero.sumR,
 Value.int IntKind.i64 Mi.zero.sumTT, Value.int IntKind.i64 Mi.zero.sumTR,
 Value.int IntKind.i64 Mi.zero.sumRR])]))
 (T.need
 (some
 (AB.cells 95
 [SV.ptr 1 0, SV.d (Value.int IntKind.i64 now), SV.sl 3 15 0 n 0,
 SV.d (Value.int IntKind.i64 id), SV.d (Value.int IntKind.i64 tmo)]) =
 some
 (AB.cells 95
 [SV.ptr 1 0, SV.d (Value.int IntKind.i64 now), SV.sl 3 15 0 n 0,
 SV.d (Value.int IntKind.i64 id), SV.d (Value.int IntKind.i64 tmo)]))
 (T.need
 (0 + n ≤ n ∧
 1 ≤
 (chunksOf 15 1
 [Value.int IntKind.i64 (openM id at').id, Value.int IntKind.i64 (openM id at').frm,
 Value.int IntKind.i64 (openM id at').to, Value.int IntKind.i64 (openM id at').sent,
 Value.int IntKind.i64 (openM id at').acked,
 Value.int IntKind.i64 (openM id at').lost,
 Value.int IntKind.i64 (openM id at').packets,
 Value.int IntKind.i64 (openM id at').hits,
 Value.int IntKind.i64 (openM id at').drops, Value.int IntKind.i64 (openM id at').n,
 Value.int IntKind.i64 (openM id at').sumT,
 Value.int IntKind.i64 (openM id at').sumR,
 Value.int IntKind.i64 (openM id at').sumTT,
 Value.int IntKind.i64 (openM id at').sumTR,
 Value.int IntKind.i64 (openM id at').sumRR]).length ∧
 n + 1 ≤ most)
 (T.ret
 (AV.tup
 [EV.s (SV.d (Value.int IntKind.i64 (openM id at').id)),
 EV.s (SV.c (Value.int IntKind.i64 0))],
 [AB.cells 95
 [SV.ptr 1 0, SV.d (Value.int IntKind.i64 at'), SV.sl 6 15 0 (n + 1) 0,
 SV.d (Value.int IntKind.i64 (IntKind.i64.wrap (id + 1))),
 SV.d (Value.int IntKind.i64 tmo)],
 AB.cells 86
 [SV.d (Value.int IntKind.i64 L.room), SV.d (Value.int IntKind.u64 L.first),
 SV.d (Value.int IntKind.u64 L.next), SV.d (Value.int IntKind.i64 L.last), SV.mp 2],
 AB.pm L.es, AB.dead,
 AB.cells 80
 [SV.d (Value.int IntKind.i64 (openM id at').id),
 SV.d (Value.int IntKind.i64 (openM id at').frm), SV.d (Value.int IntKind.i64 (-1)),
 SV.d (Value.int IntKind.i64 0), SV.d (Value.int IntKind.i64 0),
 SV.d (Value.int IntKind.i64 0), SV.d (Value.int IntKind.i64 0),
 SV.d (Value.int IntKind.i64 0), SV.d (Value.int IntKind.i64 0),
 SV.d (Value.int IntKind.i64 0), SV.d (Value.int IntKind.i64 0),
 SV.d (Value.int IntKind.i64 0), SV.d (Value.int IntKind.i64 0),
 SV.d (Value.int IntKind.i64 0), SV.d (Value.int IntKind.i64 0)],
 AB.lit 80 15
 [[Value.int IntKind.i64 (openM id at').id, Value.int IntKind.i64 (openM id at').frm,
 Value.int IntKind.i64 (-1), Value.int IntKind.i64 0, Value.int IntKind.i64 0,
 Value.int IntKind.i64 0, Value.int IntKind.i64 0, Value.int IntKind.i64 0,
 Value.int IntKind.i64 0, Value.int IntKind.i64 0, Value.int IntKind.i64 0,
 Value.int IntKind.i64 0, Value.int IntKind.i64 0, Value.int IntKind.i64 0,
 Value.int IntKind.i64 0]],
 AB.row 80 15 (n + 1)
 (appendG
 (spliceG (miF f) (0 + (IntKind.i64.wrap ((↑n : Int) - 1)).toNat) 0
 [Value.int IntKind.i64 Mi.zero.id, Value.int IntKind.i64 Mi.zero.frm,
 Value.int IntKind.i64 Mi.zero.to, Value.int IntKind.i64 Mi.zero.sent,
 Value.int IntKind.i64 Mi.zero.acked, Value.int IntKind.i64 Mi.zero.lost,
 Value.int IntKind.i64 Mi.zero.packets, Value.int IntKind.i64 Mi.zero.hits,
 Value.int IntKind.i64 Mi.zero.drops, Value.int IntKind.i64 Mi.zero.n,
 Value.int IntKind.i64 Mi.zero.sumT, Value.int IntKind.i64 Mi.zero.sumR,
 Value.int IntKind.i64 Mi.zero.sumTT, Value.int IntKind.i64 Mi.zero.sumTR,
 Value.int IntKind.i64 Mi.zero.sumRR])
 0 n
 (fun j =>
 (chunksOf 15 1
 [Value.int IntKind.i64 (openM id at').id,
 Value.int IntKind.i64 (openM id at').frm,
 Value.int IntKind.i64 (openM id at').to,
 Value.int IntKind.i64 (openM id at').sent,
 Value.int IntKind.i64 (openM id at').acked,
 Value.int IntKind.i64 (openM id at').lost,
 Value.int IntKind.i64 (openM id at').packets,
 Value.int IntKind.i64 (openM id at').hits,
 Value.int IntKind.i64 (openM id at').drops,
 Value.int IntKind.i64 (openM id at').n,
 Value.int IntKind.i64 (openM id at').sumT,
 Value.int IntKind.i64 (openM id at').sumR,
 Value.int IntKind.i64 (openM id at').sumTT,
 Value.int IntKind.i64 (openM id at').sumTR,
 Value.int IntKind.i64 (openM id at').sumRR]).getD
 j [])
 0)])))))))))
 (T.need
 (some
 (AB.cells 95
 [SV.ptr 1 0, SV.d (Value.int IntKind.i64 now), SV.sl 3 15 0 n 0, SV.d (Value.int IntKind.i64 id),
 SV.d (Value.int IntKind.i64 tmo)]) =
 some
 (AB.cells 95
 [SV.ptr 1 0, SV.d (Value.int IntKind.i64 now), SV.sl 3 15 0 n 0, SV.d (Value.int IntKind.i64 id),
 SV.d (Value.int IntKind.i64 tmo)]))
 (T.need
 (0 + n ≤ n ∧
 1 ≤
 (chunksOf 15 1
 [Value.int IntKind.i64 (openM id at').id, Value.int IntKind.i64 (openM id at').frm,
 Value.int IntKind.i64 (openM id at').to, Value.int IntKind.i64 (openM id at').sent,
 Value.int IntKind.i64 (openM id at').acked, Value.int IntKind.i64 (openM id at').lost,
 Value.int IntKind.i64 (openM id at').packets, Value.int IntKind.i64 (openM id at').hits,
 Value.int IntKind.i64 (openM id at').drops, Value.int IntKind.i64 (openM id at').n,
 Value.int IntKind.i64 (openM id at').sumT, Value.int IntKind.i64 (openM id at').sumR,
 Value.int IntKind.i64 (openM id at').sumTT, Value.int IntKind.i64 (openM id at').sumTR,
 Value.int IntKind.i64 (openM id at').sumRR]).length ∧
 n + 1 ≤ most)
 (T.ret
 (AV.tup [EV.s (SV.d (Value.int IntKind.i64 (openM id at').id)), EV.s (SV.c (Value.int IntKind.i64 0))],
 [AB.cells 95
 [SV.ptr 1 0, SV.d (Value.int IntKind.i64 at'), SV.sl 6 15 0 (n + 1) 0,
 SV.d (Value.int IntKind.i64 (IntKind.i64.wrap (id + 1))), SV.d (Value.int IntKind.i64 tmo)],
 AB.cells 86
 [SV.d (Value.int IntKind.i64 L.room), SV.d (Value.int IntKind.u64 L.first),
 SV.d (Value.int IntKind.u64 L.next), SV.d (Value.int IntKind.i64 L.last), SV.mp 2],
 AB.pm L.es, AB.dead,
 AB.cells 80
 [SV.d (Value.int IntKind.i64 (openM id at').id), SV.d (Value.int IntKind.i64 (openM id at').frm),
 SV.d (Value.int IntKind.i64 (-1)), SV.d (Value.int IntKind.i64 0),
 SV.d (Value.int IntKind.i64 0), SV.d (Value.int IntKind.i64 0), SV.d (Value.int IntKind.i64 0),
 SV.d (Value.int IntKind.i64 0), SV.d (Value.int IntKind.i64 0), SV.d (Value.int IntKind.i64 0),
 SV.d (Value.int IntKind.i64 0), SV.d (Value.int IntKind.i64 0), SV.d (Value.int IntKind.i64 0),
 SV.d (Value.int IntKind.i64 0), SV.d (Value.int IntKind.i64 0)],
 AB.lit 80 15
 [[Value.int IntKind.i64 (openM id at').id, Value.int IntKind.i64 (openM id at').frm,
 Value.int IntKind.i64 (-1), Value.int IntKind.i64 0, Value.int IntKind.i64 0,
 Value.int IntKind.i64 0, Value.int IntKind.i64 0, Value.int IntKind.i64 0,
 Value.int IntKind.i64 0, Value.int IntKind.i64 0, Value.int IntKind.i64 0,
 Value.int IntKind.i64 0, Value.int IntKind.i64 0, Value.int IntKind.i64 0,
 Value.int IntKind.i64 0]],
 AB.row 80 15 (n + 1)
 (appendG (miF f) 0 n
 (fun j =>
 (chunksOf 15 1
 [Value.int IntKind.i64 (openM id at').id, Value.int IntKind.i64 (openM id at').frm,
 Value.int IntKind.i64 (openM id at').to, Value.int IntKind.i64 (openM id at').sent,
 Value.int IntKind.i64 (openM id at').acked, Value.int IntKind.i64 (openM id at').lost,
 Value.int IntKind.i64 (openM id at').packets,
 Value.int IntKind.i64 (openM id at').hits, Value.int IntKind.i64 (openM id at').drops,
 Value.int IntKind.i64 (openM id at').n, Value.int IntKind.i64 (openM id at').sumT,
 Value.int IntKind.i64 (openM id at').sumR, Value.int IntKind.i64 (openM id at').sumTT,
 Value.int IntKind.i64 (openM id at').sumTR,
 Value.int IntKind.i64 (openM id at').sumRR]).getD
 j [])
 0)])))))
 (T.ite (openE id at' != 0)
 (T.ret
 (AV.tup [EV.s (SV.c (Value.int IntKind.i64 0)), EV.s (SV.d (Value.int IntKind.i64 (openE id at')))],
 [AB.cells 95
 [SV.ptr 1 0, SV.d (Value.int IntKind.i64 now), SV.sl 3 15 0 n 0, SV.d (Value.int IntKind.i64 id),
 SV.d (Value.int IntKind.i64 tmo)],
 AB.cells 86
 [SV.d (Value.int IntKind.i64 L.room), SV.d (Value.int IntKind.u64 L.first),
 SV.d (Value.int IntKind.u64 L.next), SV.d (Value.int IntKind.i64 L.last), SV.mp 2],
 AB.pm L.es, AB.row 80 15 n (miF f)]))
 (T.ite (decide ((↑n : Int) > 0))
 (T.need (0 ≤ IntKind.i64.wrap ((↑n : Int) - 1) ∧ IntKind.i64.wrap ((↑n : Int) - 1) < (↑n : Int))
 (T.need (0 + (IntKind.i64.wrap ((↑n : Int) - 1)).toNat < n)
 (T.ite (closeE (f (0 + (IntKind.i64.wrap ((↑n : Int) - 1)).toNat)) at' == 0)
 (T.need (0 + (IntKind.i64.wrap ((↑n : Int) - 1)).toNat < n)
 (T.need
 (some
 (AB.cells 95
 [SV.ptr 1 0, SV.d (Value.int IntKind.i64 now), SV.sl 3 15 0 n 0,
 SV.d (Value.int IntKind.i64 id), SV.d (Value.int IntKind.i64 tmo)]) =
 some
 (AB.cells 95
 [SV.ptr 1 0, SV.d (Value.int IntKind.i64 now), SV.sl 3 15 0 n 0,
 SV.d (Value.int IntKind.i64 id), SV.d (Value.int IntKind.i64 tmo)]))
 (T.need
 (0 + n ≤ n ∧
 1 ≤
 (chunksOf 15 1
 [Value.int IntKind.i64 Mi.zero.id, Value.int IntKind.i64 Mi.zero.frm,
 Value.int IntKind.i64 Mi.zero.to, Value.int IntKind.i64 Mi.zero.sent,
 Value.int IntKind.i64 Mi.zero.acked, Value.int IntKind.i64 Mi.zero.lost,
 Value.int IntKind.i64 Mi.zero.packets, Value.int IntKind.i64 Mi.zero.hits,
 Value.int IntKind.i64 Mi.zero.drops, Value.int IntKind.i64 Mi.zero.n,
 Value.int IntKind.i64 Mi.zero.sumT, Value.int IntKind.i64 Mi.zero.sumR,
 Value.int IntKind.i64 Mi.zero.sumTT, Value.int IntKind.i64 Mi.zero.sumTR,
 Value.int IntKind.i64 Mi.zero.sumRR]).length ∧
 n + 1 ≤ most)
 (T.ret
 (AV.tup [EV.s (SV.d (Value.int IntKind.i64 0)), EV.s (SV.c (Value.int IntKind.i64 0))],
 [AB.cells 95
 [SV.ptr 1 0, SV.d (Value.int IntKind.i64 at'), SV.sl 6 15 0 (n + 1) 0,
 SV.d (Value.int IntKind.i64 (IntKind.i64.wrap (id + 1))),
 SV.d (Value.int IntKind.i64 tmo)],
 AB.cells 86
 [SV.d (Value.int IntKind.i64 L.room), SV.d (Value.int IntKind.u64 L.first),
 SV.d (Value.int IntKind.u64 L.next), SV.d (Value.int IntKind.i64 L.last), SV.mp 2],
 AB.pm L.es, AB.dead,
 AB.cells 80
 [SV.d (Value.int IntKind.i64 0), SV.d (Value.int IntKind.i64 0),
 SV.d (Value.int IntKind.i64 0), SV.d (Value.int IntKind.i64 0),
 SV.d (Value.int IntKind.i64 0), SV.d (Value.int IntKind.i64 0),
 SV.d (Value.int IntKind.i64 0), SV.d (Value.int IntKind.i64 0),
 SV.d (Value.int IntKind.i64 0), SV.d (Value.int IntKind.i64 0),
 SV.d (Value.int IntKind.i64 0), SV.d (Value.int IntKind.i64 0),
 SV.d (Value.int IntKind.i64 0), SV.d (Value.int IntKind.i64 0),
 SV.d (Value.int IntKind.i64 0)],
 AB.lit 80 15
 [[Value.int IntKind.i64 0, Value.int IntKind.i64 0, Value.int IntKind.i64 0,
 Value.int IntKind.i64 0, Value.int IntKind.i64 0, Value.int IntKind.i64 0,
 Value.int IntKind.i64 0, Value.int IntKind.i64 0, Value.int IntKind.i64 0,
 Value.int IntKind.i64 0, Value.int IntKind.i64 0, Value.int IntKind.i64 0,
 Value.int IntKind.i64 0, Value.int IntKind.i64 0, Value.int IntKind.i64 0]],
 AB.row 80 15 (n + 1)
 (appendG
 (spliceG (miF f) (0 + (IntKind.i64.wrap ((↑n : Int) - 1)).toNat) 0
 [Value.int IntKind.i64
 (closeM (f (0 + (IntKind.i64.wrap ((↑n : Int) - 1)).toNat)) at').id,
 Value.int IntKind.i64
 (closeM (f (0 + (IntKind.i64.wrap ((↑n : Int) - 1)).toNat)) at').frm,
 Value.int IntKind.i64
 (closeM (f (0 + (IntKind.i64.wrap ((↑n : Int) - 1)).toNat)) at').to,
 Value.int IntKind.i64
 (closeM (f (0 + (IntKind.i64.wrap ((↑n : Int) - 1)).toNat)) at').sent,
 Value.int IntKind.i64
 (closeM (f (0 + (IntKind.i64.wrap ((↑n : Int) - 1)).toNat)) at').acked,
 Value.int IntKind.i64
 (closeM (f (0 + (IntKind.i64.wrap ((↑n : Int) - 1)).toNat)) at').lost,
 Value.int IntKind.i64
 (closeM (f (0 + (IntKind.i64.wrap ((↑n : Int) - 1)).toNat)) at').packets,
 Value.int IntKind.i64
 (closeM (f (0 + (IntKind.i64.wrap ((↑n : Int) - 1)).toNat)) at').hits,
 Value.int IntKind.i64
 (closeM (f (0 + (IntKind.i64.wrap ((↑n : Int) - 1)).toNat)) at').drops,
 Value.int IntKind.i64
 (closeM (f (0 + (IntKind.i64.wrap ((↑n : Int) - 1)).toNat)) at').n,
 Value.int IntKind.i64
 (closeM (f (0 + (IntKind.i64.wrap ((↑n : Int) - 1)).toNat)) at').sumT,
 Value.int IntKind.i64
 (closeM (f (0 + (IntKind.i64.wrap ((↑n : Int) - 1)).toNat)) at').sumR,
 Value.int IntKind.i64
 (closeM (f (0 + (IntKind.i64.wrap ((↑n : Int) - 1)).toNat)) at').sumTT,
 Value.int IntKind.i64
 (closeM (f (0 + (IntKind.i64.wrap ((↑n : Int) - 1)).toNat)) at').sumTR,
 Value.int IntKind.i64
 (closeM (f (0 + (IntKind.i64.wrap ((↑n : Int) - 1)).toNat)) at').sumRR])
 0 n
 (fun j =>
 (chunksOf 15 1
 [Value.int IntKind.i64 Mi.zero.id, Value.int IntKind.i64 Mi.zero.frm,
 Value.int IntKind.i64 Mi.zero.to, Value.int IntKind.i64 Mi.zero.sent,
 Value.int IntKind.i64 Mi.zero.acked, Value.int IntKind.i64 Mi.zero.lost,
 Value.int IntKind.i64 Mi.zero.packets, Value.int IntKind.i64 Mi.zero.hits,
 Value.int IntKind.i64 Mi.zero.drops, Value.int IntKind.i64 Mi.zero.n,
 Value.int IntKind.i64 Mi.zero.sumT, Value.int IntKind.i64 Mi.zero.sumR,
 Value.int IntKind.i64 Mi.zero.sumTT, Value.int IntKind.i64 Mi.zero.sumTR,
 Value.int IntKind.i64 Mi.zero.sumRR]).getD
 j [])
 0)])))))
 (T.need (0 + (IntKind.i64.wrap ((↑n : Int) - 1)).toNat < n)
 (T.ite (closeE (f (0 + (IntKind.i64.wrap ((↑n : Int) - 1)).toNat)) at' != 0)
 (T.ret
 (AV.tup
 [EV.s (SV.c (Value.int IntKind.i64 0)),
 EV.s
 (SV.d
 (Value.int IntKind.i64
 (closeE (f (0 + (IntKind.i64.wrap ((↑n : Int) - 1)).toNat)) at')))],
 [AB.cells 95
 [SV.ptr 1 0, SV.d (Value.int IntKind.i64 now), SV.sl 3 15 0 n 0,
 SV.d (Value.int IntKind.i64 id), SV.d (Value.int IntKind.i64 tmo)],
 AB.cells 86
 [SV.d (Value.int IntKind.i64 L.room), SV.d (Value.int IntKind.u64 L.first),
 SV.d (Value.int IntKind.u64 L.next), SV.d (Value.int IntKind.i64 L.last), SV.mp 2],
 AB.pm L.es,
 AB.row 80 15 n
 (spliceG (miF f) (0 + (IntKind.i64.wrap ((↑n : Int) - 1)).toNat) 0
 [Value.int IntKind.i64 Mi.zero.id, Value.int IntKind.i64 Mi.zero.frm,
 Value.int IntKind.i64 Mi.zero.to, Value.int IntKind.i64 Mi.zero.sent,
 Value.int IntKind.i64 Mi.zero.acked, Value.int IntKind.i64 Mi.zero.lost,
 Value.int IntKind.i64 Mi.zero.packets, Value.int IntKind.i64 Mi.zero.hits,
 Value.int IntKind.i64 Mi.zero.drops, Value.int IntKind.i64 Mi.zero.n,
 Value.int IntKind.i64 Mi.zero.sumT, Value.int IntKind.i64 Mi.zero.sumR,
 Value.int IntKind.i64 Mi.zero.sumTT, Value.int IntKind.i64 Mi.zero.sumTR,
 Value.int IntKind.i64 Mi.zero.sumRR])]))
 (T.need
 (some
 (AB.cells 95
 [SV.ptr 1 0, SV.d (Value.int IntKind.i64 now), SV.sl 3 15 0 n 0,
 SV.d (Value.int IntKind.i64 id), SV.d (Value.int IntKind.i64 tmo)]) =
 some
 (AB.cells 95
 [SV.ptr 1 0, SV.d (Value.int IntKind.i64 now), SV.sl 3 15 0 n 0,
 SV.d (Value.int IntKind.i64 id), SV.d (Value.int IntKind.i64 tmo)]))
 (T.need
 (0 + n ≤ n ∧
 1 ≤
 (chunksOf 15 1
 [Value.int IntKind.i64 Mi.zero.id, Value.int IntKind.i64 Mi.zero.frm,
 Value.int IntKind.i64 Mi.zero.to, Value.int IntKind.i64 Mi.zero.sent,
 Value.int IntKind.i64 Mi.zero.acked, Value.int IntKind.i64 Mi.zero.lost,
 Value.int IntKind.i64 Mi.zero.packets, Value.int IntKind.i64 Mi.zero.hits,
 Value.int IntKind.i64 Mi.zero.drops, Value.int IntKind.i64 Mi.zero.n,
 Value.int IntKind.i64 Mi.zero.sumT, Value.int IntKind.i64 Mi.zero.sumR,
 Value.int IntKind.i64 Mi.zero.sumTT, Value.int IntKind.i64 Mi.zero.sumTR,
 Value.int IntKind.i64 Mi.zero.sumRR]).length ∧
 n + 1 ≤ most)
 (T.ret
 (AV.tup [EV.s (SV.d (Value.int IntKind.i64 0)), EV.s (SV.c (Value.int IntKind.i64 0))],
 [AB.cells 95
 [SV.ptr 1 0, SV.d (Value.int IntKind.i64 at'), SV.sl 6 15 0 (n + 1) 0,
 SV.d (Value.int IntKind.i64 (IntKind.i64.wrap (id + 1))),
 SV.d (Value.int IntKind.i64 tmo)],
 AB.cells 86
 [SV.d (Value.int IntKind.i64 L.room), SV.d (Value.int IntKind.u64 L.first),
 SV.d (Value.int IntKind.u64 L.next), SV.d (Value.int IntKind.i64 L.last), SV.mp 2],
 AB.pm L.es, AB.dead,
 AB.cells 80
 [SV.d (Value.int IntKind.i64 0), SV.d (Value.int IntKind.i64 0),
 SV.d (Value.int IntKind.i64 0), SV.d (Value.int IntKind.i64 0),
 SV.d (Value.int IntKind.i64 0), SV.d (Value.int IntKind.i64 0),
 SV.d (Value.int IntKind.i64 0), SV.d (Value.int IntKind.i64 0),
 SV.d (Value.int IntKind.i64 0), SV.d (Value.int IntKind.i64 0),
 SV.d (Value.int IntKind.i64 0), SV.d (Value.int IntKind.i64 0),
 SV.d (Value.int IntKind.i64 0), SV.d (Value.int IntKind.i64 0),
 SV.d (Value.int IntKind.i64 0)],
 AB.lit 80 15
 [[Value.int IntKind.i64 0, Value.int IntKind.i64 0, Value.int IntKind.i64 0,
 Value.int IntKind.i64 0, Value.int IntKind.i64 0, Value.int IntKind.i64 0,
 Value.int IntKind.i64 0, Value.int IntKind.i64 0, Value.int IntKind.i64 0,
 Value.int IntKind.i64 0, Value.int IntKind.i64 0, Value.int IntKind.i64 0,
 Value.int IntKind.i64 0, Value.int IntKind.i64 0, Value.int IntKind.i64 0]],
 AB.row 80 15 (n + 1)
 (appendG
 (spliceG (miF f) (0 + (IntKind.i64.wrap ((↑n : Int) - 1)).toNat) 0
 [Value.int IntKind.i64 Mi.zero.id, Value.int IntKind.i64 Mi.zero.frm,
 Value.int IntKind.i64 Mi.zero.to, Value.int IntKind.i64 Mi.zero.sent,
 Value.int IntKind.i64 Mi.zero.acked, Value.int IntKind.i64 Mi.zero.lost,
 Value.int IntKind.i64 Mi.zero.packets, Value.int IntKind.i64 Mi.zero.hits,
 Value.int IntKind.i64 Mi.zero.drops, Value.int IntKind.i64 Mi.zero.n,
 Value.int IntKind.i64 Mi.zero.sumT, Value.int IntKind.i64 Mi.zero.sumR,
 Value.int IntKind.i64 Mi.zero.sumTT, Value.int IntKind.i64 Mi.zero.sumTR,
 Value.int IntKind.i64 Mi.zero.sumRR])
 0 n
 (fun j =>
 (chunksOf 15 1
 [Value.int IntKind.i64 Mi.zero.id, Value.int IntKind.i64 Mi.zero.frm,
 Value.int IntKind.i64 Mi.zero.to, Value.int IntKind.i64 Mi.zero.sent,
 Value.int IntKind.i64 Mi.zero.acked, Value.int IntKind.i64 Mi.zero.lost,
 Value.int IntKind.i64 Mi.zero.packets, Value.int IntKind.i64 Mi.zero.hits,
 Value.int IntKind.i64 Mi.zero.drops, Value.int IntKind.i64 Mi.zero.n,
 Value.int IntKind.i64 Mi.zero.sumT, Value.int IntKind.i64 Mi.zero.sumR,
 Value.int IntKind.i64 Mi.zero.sumTT, Value.int IntKind.i64 Mi.zero.sumTR,
 Value.int IntKind.i64 Mi.zero.sumRR]).getD
 j [])
 0)])))))))))
 (T.need
 (some
 (AB.cells 95
 [SV.ptr 1 0, SV.d (Value.int IntKind.i64 now), SV.sl 3 15 0 n 0, SV.d (Value.int IntKind.i64 id),
 SV.d (Value.int IntKind.i64 tmo)]) =
 some
 (AB.cells 95
 [SV.ptr 1 0, SV.d (Value.int IntKind.i64 now), SV.sl 3 15 0 n 0, SV.d (Value.int IntKind.i64 id),
 SV.d (Value.int IntKind.i64 tmo)]))
 (T.need
 (0 + n ≤ n ∧
 1 ≤
 (chunksOf 15 1
 [Value.int IntKind.i64 Mi.zero.id, Value.int IntKind.i64 Mi.zero.frm,
 Value.int IntKind.i64 Mi.zero.to, Value.int IntKind.i64 Mi.zero.sent,
 Value.int IntKind.i64 Mi.zero.acked, Value.int IntKind.i64 Mi.zero.lost,
 Value.int IntKind.i64 Mi.zero.packets, Value.int IntKind.i64 Mi.zero.hits,
 Value.int IntKind.i64 Mi.zero.drops, Value.int IntKind.i64 Mi.zero.n,
 Value.int IntKind.i64 Mi.zero.sumT, Value.int IntKind.i64 Mi.zero.sumR,
 Value.int IntKind.i64 Mi.zero.sumTT, Value.int IntKind.i64 Mi.zero.sumTR,
 Value.int IntKind.i64 Mi.zero.sumRR]).length ∧
 n + 1 ≤ most)
 (T.ret
 (AV.tup [EV.s (SV.d (Value.int IntKind.i64 0)), EV.s (SV.c (Value.int IntKind.i64 0))],
 [AB.cells 95
 [SV.ptr 1 0, SV.d (Value.int IntKind.i64 at'), SV.sl 6 15 0 (n + 1) 0,
 SV.d (Value.int IntKind.i64 (IntKind.i64.wrap (id + 1))), SV.d (Value.int IntKind.i64 tmo)],
 AB.cells 86
 [SV.d (Value.int IntKind.i64 L.room), SV.d (Value.int IntKind.u64 L.first),
 SV.d (Value.int IntKind.u64 L.next), SV.d (Value.int IntKind.i64 L.last), SV.mp 2],
 AB.pm L.es, AB.dead,
 AB.cells 80
 [SV.d (Value.int IntKind.i64 0), SV.d (Value.int IntKind.i64 0), SV.d (Value.int IntKind.i64 0),
 SV.d (Value.int IntKind.i64 0), SV.d (Value.int IntKind.i64 0),
 SV.d (Value.int IntKind.i64 0), SV.d (Value.int IntKind.i64 0),
 SV.d (Value.int IntKind.i64 0), SV.d (Value.int IntKind.i64 0),
 SV.d (Value.int IntKind.i64 0), SV.d (Value.int IntKind.i64 0),
 SV.d (Value.int IntKind.i64 0), SV.d (Value.int IntKind.i64 0),
 SV.d (Value.int IntKind.i64 0), SV.d (Value.int IntKind.i64 0)],
 AB.lit 80 15
 [[Value.int IntKind.i64 0, Value.int IntKind.i64 0, Value.int IntKind.i64 0,
 Value.int IntKind.i64 0, Value.int IntKind.i64 0, Value.int IntKind.i64 0,
 Value.int IntKind.i64 0, Value.int IntKind.i64 0, Value.int IntKind.i64 0,
 Value.int IntKind.i64 0, Value.int IntKind.i64 0, Value.int IntKind.i64 0,
 Value.int IntKind.i64 0, Value.int IntKind.i64 0, Value.int IntKind.i64 0]],
 AB.row 80 15 (n + 1)
 (appendG (miF f) 0 n
 (fun j =>
 (chunksOf 15 1
 [Value.int IntKind.i64 Mi.zero.id, Value.int IntKind.i64 Mi.zero.frm,
 Value.int IntKind.i64 Mi.zero.to, Value.int IntKind.i64 Mi.zero.sent,
 Value.int IntKind.i64 Mi.zero.acked, Value.int IntKind.i64 Mi.zero.lost,
 Value.int IntKind.i64 Mi.zero.packets, Value.int IntKind.i64 Mi.zero.hits,
 Value.int IntKind.i64 Mi.zero.drops, Value.int IntKind.i64 Mi.zero.n,
 Value.int IntKind.i64 Mi.zero.sumT, Value.int IntKind.i64 Mi.zero.sumR,
 Value.int IntKind.i64 Mi.zero.sumTT, Value.int IntKind.i64 Mi.zero.sumTR,
 Value.int IntKind.i64 Mi.zero.sumRR]).getD
 j [])
 0)]))))))))) := by kernel_rfl


noncomputable def t33 (L : LSt) (n : Nat) (f : Nat → Mi) (now id tmo size at' : Int) : T (AV × Heap) := callT Try.prog (entL e33) 4 33 [.e (.s (.ptr 0 0)), .d (.int .i64 size), .d (.int .i64 at')] (bH L n (miF f) now id tmo) fun r H' => .ret (r, H')

theorem t33_eq (L : LSt) (n : Nat) (f : Nat → Mi) (now id tmo size at' : Int) : t33 L n f now id tmo size at' =
 T.ite (decide (at' < now))
 (T.ret
 (AV.tup [EV.s (SV.c (Value.int IntKind.u64 0)), EV.s (SV.c (Value.int IntKind.i64 10))],
 [AB.cells 95
 [SV.ptr 1 0, SV.d (Value.int IntKind.i64 now), SV.sl 3 15 0 n 0, SV.d (Value.int IntKind.i64 id),
 SV.d (Value.int IntKind.i64 tmo)],
 AB.cells 86
 [SV.d (Value.int IntKind.i64 L.room), SV.d (Value.int IntKind.u64 L.first),
 SV.d (Value.int IntKind.u64 L.next), SV.d (Value.int IntKind.i64 L.last), SV.mp 2],
 AB.pm L.es, AB.row 80 15 n (miF f)]))
 (T.ite (decide (at' > 1099511627776))
 (T.ret
 (AV.tup [EV.s (SV.c (Value.int IntKind.u64 0)), EV.s (SV.c (Value.int IntKind.i64 10))],
 [AB.cells 95
 [SV.ptr 1 0, SV.d (Value.int IntKind.i64 now), SV.sl 3 15 0 n 0, SV.d (Value.int IntKind.i64 id),
 SV.d (Value.int IntKind.i64 tmo)],
 AB.cells 86
 [SV.d (Value.int IntKind.i64 L.room), SV.d (Value.int IntKind.u64 L.first),
 SV.d (Value.int IntKind.u64 L.next), SV.d (Value.int IntKind.i64 L.last), SV.mp 2],
 AB.pm L.es, AB.row 80 15 n (miF f)]))
 (T.ite ((↑n : Int) == 0)
 (T.ret
 (AV.tup [EV.s (SV.c (Value.int IntKind.u64 0)), EV.s (SV.c (Value.int IntKind.i64 15))],
 [AB.cells 95
 [SV.ptr 1 0, SV.d (Value.int IntKind.i64 now), SV.sl 3 15 0 n 0, SV.d (Value.int IntKind.i64 id),
 SV.d (Value.int IntKind.i64 tmo)],
 AB.cells 86
 [SV.d (Value.int IntKind.i64 L.room), SV.d (Value.int IntKind.u64 L.first),
 SV.d (Value.int IntKind.u64 L.next), SV.d (Value.int IntKind.i64 L.last), SV.mp 2],
 AB.pm L.es, AB.row 80 15 n (miF f)]))
 (T.need (0 ≤ IntKind.i64.wrap ((↑n : Int) - 1) ∧ IntKind.i64.wrap ((↑n : Int) - 1) < (↑n : Int))
 (T.need (0 + (IntKind.i64.wrap ((↑n : Int) - 1)).toNat < n)
 (T.ite (sndE (f (0 + (IntKind.i64.wrap ((↑n : Int) - 1)).toNat)) size == 0)
 (T.need L.Ok
 (T.ite (sendE L (sndM (f (0 + (IntKind.i64.wrap ((↑n : Int) - 1)).toNat)) size).id size at' != 0)
 (T.ret
 (AV.tup
 [EV.s (SV.c (Value.int IntKind.u64 0)),
 EV.s
 (SV.d
 (Value.int IntKind.i64
 (sendE L (sndM (f (0 + (IntKind.i64.wrap ((↑n : Int) - 1)).toNat)) size).id size at')))],
 [AB.cells 95
 [SV.ptr 1 0, SV.d (Value.int IntKind.i64 now), SV.sl 3 15 0 n 0,
 SV.d (Value.int IntKind.i64 id), SV.d (Value.int IntKind.i64 tmo)],
 AB.cells 86
 [SV.d
 (Value.int IntKind.i64
 (sendL L (sndM (f (0 + (IntKind.i64.wrap ((↑n : Int) - 1)).toNat)) size).id size
 at').room),
 SV.d
 (Value.int IntKind.u64
 (sendL L (sndM (f (0 + (IntKind.i64.wrap ((↑n : Int) - 1)).toNat)) size).id size
 at').first),
 SV.d
 (Value.int IntKind.u64
 (sendL L (sndM (f (0 + (IntKind.i64.wrap ((↑n : Int) - 1)).toNat)) size).id size
 at').next),
 SV.d
 (Value.int IntKind.i64
 (sendL L (sndM (f (0 + (IntKind.i64.wrap ((↑n : Int) - 1)).toNat)) size).id size
 at').last),
 SV.mp 2],
 AB.pm (sendL L (sndM (f (0 + (IntKind.i64.wrap ((↑n : Int) - 1)).toNat)) size).id size at').es,
 AB.row 80 15 n (miF f)]))
 (T.need (0 ≤ IntKind.i64.wrap ((↑n : Int) - 1) ∧ IntKind.i64.wrap ((↑n : Int) - 1) < (↑n : Int))
 (T.need
 (some
 (AB.cells 80
 [SV.d
 (Value.int IntKind.i64
 (sndM (f (0 + (IntKind.i64.wrap ((↑n : Int) - 1)).toNat)) size).id),
 SV.d
 (Value.int IntKind.i64
 (sndM (f (0 + (IntKind.i64.wrap ((↑n : Int) - 1)).toNat)) size).frm),
 SV.d
 (Value.int IntKind.i64
 (sndM (f (0 + (IntKind.i64.wrap ((↑n : Int) - 1)).toNat)) size).to),
 SV.d
 (Value.int IntKind.i64
 (sndM (f (0 + (IntKind.i64.wrap ((↑n : Int) - 1)).toNat)) size).sent),
 SV.d
 (Value.int IntKind.i64
 (sndM (f (0 + (IntKind.i64.wrap ((↑n : Int) - 1)).toNat)) size).acked),
 SV.d
 (Value.int IntKind.i64
 (sndM (f (0 + (IntKind.i64.wrap ((↑n : Int) - 1)).toNat)) size).lost),
 SV.d
 (Value.int IntKind.i64
 (sndM (f (0 + (IntKind.i64.wrap ((↑n : Int) - 1)).toNat)) size).packets),
 SV.d
 (Value.int IntKind.i64
 (sndM (f (0 + (IntKind.i64.wrap ((↑n : Int) - 1)).toNat)) size).hits),
 SV.d
 (Value.int IntKind.i64
 (sndM (f (0 + (IntKind.i64.wrap ((↑n : Int) - 1)).toNat)) size).drops),
 SV.d
 (Value.int IntKind.i64 (sndM (f (0 + (IntKind.i64.wrap ((↑n : Int) - 1)).toNat)) size).n),
 SV.d
 (Value.int IntKind.i64
 (sndM (f (0 + (IntKind.i64.wrap ((↑n : Int) - 1)).toNat)) size).sumT),
 SV.d
 (Value.int IntKind.i64
 (sndM (f (0 + (IntKind.i64.wrap ((↑n : Int) - 1)).toNat)) size).sumR),
 SV.d
 (Value.int IntKind.i64
 (sndM (f (0 + (IntKind.i64.wrap ((↑n : Int) - 1)).toNat)) size).sumTT),
 SV.d
 (Value.int IntKind.i64
 (sndM (f (0 + (IntKind.i64.wrap ((↑n : Int) - 1)).toNat)) size).sumTR),
 SV.d
 (Value.int IntKind.i64
 (sndM (f (0 + (IntKind.i64.wrap ((↑n : Int) - 1)).toNat)) size).sumRR)]) =
 some
 (AB.cells 80
 [SV.d
 (Value.int IntKind.i64
 (sndM (f (0 + (IntKind.i64.wrap ((↑n : Int) - 1)).toNat)) size).id),
 SV.d
 (Value.int IntKind.i64
 (sndM (f (0 + (IntKind.i64.wrap ((↑n : Int) - 1)).toNat)) size).frm),
 SV.d
 (Value.int IntKind.i64
 (sndM (f (0 + (IntKind.i64.wrap ((↑n : Int) - 1)).toNat)) size).to),
 SV.d
 (Value.int IntKind.i64
 (sndM (f (0 + (IntKind.i64.wrap ((↑n : Int) - 1)).toNat)) size).sent),
 SV.d
 (Value.int IntKind.i64
 (sndM (f (0 + (IntKind.i64.wrap ((↑n : Int) - 1)).toNat)) size).acked),
 SV.d
 (Value.int IntKind.i64
 (sndM (f (0 + (IntKind.i64.wrap ((↑n : Int) - 1)).toNat)) size).lost),
 SV.d
 (Value.int IntKind.i64
 (sndM (f (0 + (IntKind.i64.wrap ((↑n : Int) - 1)).toNat)) size).packets),
 SV.d
 (Value.int IntKind.i64
 (sndM (f (0 + (IntKind.i64.wrap ((↑n : Int) - 1)).toNat)) size).hits),
 SV.d
 (Value.int IntKind.i64
 (sndM (f (0 + (IntKind.i64.wrap ((↑n : Int) - 1)).toNat)) size).drops),
 SV.d
 (Value.int IntKind.i64 (sndM (f (0 + (IntKind.i64.wrap ((↑n : Int) - 1)).toNat)) size).n),
 SV.d
 (Value.int IntKind.i64
 (sndM (f (0 + (IntKind.i64.wrap ((↑n : Int) - 1)).toNat)) size).sumT),
 SV.d
 (Value.int IntKind.i64
 (sndM (f (0 + (IntKind.i64.wrap ((↑n : Int) - 1)).toNat)) size).sumR),
 SV.d
 (Value.int IntKind.i64
 (sndM (f (0 + (IntKind.i64.wrap ((↑n : Int) - 1)).toNat)) size).sumTT),
 SV.d
 (Value.int IntKind.i64
 (sndM (f (0 + (IntKind.i64.wrap ((↑n : Int) - 1)).toNat)) size).sumTR),
 SV.d
 (Value.int IntKind.i64
 (sndM (f (0 + (IntKind.i64.wrap ((↑n : Int) - 1)).toNat)) size).sumRR)]))
 (T.need (0 + (IntKind.i64.wrap ((↑n : Int) - 1)).toNat < n)
 (T.ret
 (AV.tup
 [EV.s
 (SV.d
 (Value.int IntKind.u64
 (sendN L (sndM (f (0 + (IntKind.i64.wrap ((↑n : Int) - 1)).toNat)) size).id size
 at'))),
 EV.s (SV.c (Value.int IntKind.i64 0))],
 [AB.cells 95
 [SV.ptr 1 0, SV.d (Value.int IntKind.i64 at'), SV.sl 3 15 0 n 0,
 SV.d (Value.int IntKind.i64 id), SV.d (Value.int IntKind.i64 tmo)],
 AB.cells 86
 [SV.d
 (Value.int IntKind.i64
 (sendL L (sndM (f (0 + (IntKind.i64.wrap ((↑n : Int) - 1)).toNat)) size).id size
 at').room),
 SV.d
 (Value.int IntKind.u64
 (sendL L (sndM (f (0 + (IntKind.i64.wrap ((↑n : Int) - 1)).toNat)) size).id size
 at').first),
 SV.d
 (Value.int IntKind.u64
 (sendL L (sndM (f (0 + (IntKind.i64.wrap ((↑n : Int) - 1)).toNat)) size).id size
 at').next),
 SV.d
 (Value.int IntKind.i64
 (sendL L (sndM (f (0 + (IntKind.i64.wrap ((↑n : Int) - 1)).toNat)) size).id size
 at').last),
 SV.mp 2],
 AB.pm
 (sendL L (sndM (f (0 + (IntKind.i64.wrap ((↑n : Int) - 1)).toNat)) size).id size at').es,
 AB.row 80 15 n
 (spliceG (miF f) (0 + (IntKind.i64.wrap ((↑n : Int) - 1)).toNat) 0
 [Value.int IntKind.i64
 (sndM (f (0 + (IntKind.i64.wrap ((↑n : Int) - 1)).toNat)) size).id,
 Value.int IntKind.i64
 (sndM (f (0 + (IntKind.i64.wrap ((↑n : Int) - 1)).toNat)) size).frm,
 Value.int IntKind.i64
 (sndM (f (0 + (IntKind.i64.wrap ((↑n : Int) - 1)).toNat)) size).to,
 Value.int IntKind.i64
 (sndM (f (0 + (IntKind.i64.wrap ((↑n : Int) - 1)).toNat)) size).sent,
 Value.int IntKind.i64
 (sndM (f (0 + (IntKind.i64.wrap ((↑n : Int) - 1)).toNat)) size).acked,
 Value.int IntKind.i64
 (sndM (f (0 + (IntKind.i64.wrap ((↑n : Int) - 1)).toNat)) size).lost,
 Value.int IntKind.i64
 (sndM (f (0 + (IntKind.i64.wrap ((↑n : Int) - 1)).toNat)) size).packets,
 Value.int IntKind.i64
 (sndM (f (0 + (IntKind.i64.wrap ((↑n : Int) - 1)).toNat)) size).hits,
 Value.int IntKind.i64
 (sndM (f (0 + (IntKind.i64.wrap ((↑n : Int) - 1)).toNat)) size).drops,
 Value.int IntKind.i64
 (sndM (f (0 + (IntKind.i64.wrap ((↑n : Int) - 1)).toNat)) size).n,
 Value.int IntKind.i64
 (sndM (f (0 + (IntKind.i64.wrap ((↑n : Int) - 1)).toNat)) size).sumT,
 Value.int IntKind.i64
 (sndM (f (0 + (IntKind.i64.wrap ((↑n : Int) - 1)).toNat)) size).sumR,
 Value.int IntKind.i64
 (sndM (f (0 + (IntKind.i64.wrap ((↑n : Int) - 1)).toNat)) size).sumTT,
 Value.int IntKind.i64
 (sndM (f (0 + (IntKind.i64.wrap ((↑n : Int) - 1)).toNat)) size).sumTR,
 Value.int IntKind.i64
 (sndM (f (0 + (IntKind.i64.wrap ((↑n : Int) - 1)).toNat)) size).sumRR])])))))))
 (T.ite (sndE (f (0 + (IntKind.i64.wrap ((↑n : Int) - 1)).toNat)) size != 0)
 (T.ret
 (AV.tup
 [EV.s (SV.c (Value.int IntKind.u64 0)),
 EV.s
 (SV.d (Value.int IntKind.i64 (sndE (f (0 + (IntKind.i64.wrap ((↑n : Int) - 1)).toNat)) size)))],
 [AB.cells 95
 [SV.ptr 1 0, SV.d (Value.int IntKind.i64 now), SV.sl 3 15 0 n 0, SV.d (Value.int IntKind.i64 id),
 SV.d (Value.int IntKind.i64 tmo)],
 AB.cells 86
 [SV.d (Value.int IntKind.i64 L.room), SV.d (Value.int IntKind.u64 L.first),
 SV.d (Value.int IntKind.u64 L.next), SV.d (Value.int IntKind.i64 L.last), SV.mp 2],
 AB.pm L.es, AB.row 80 15 n (miF f)]))
 (T.need L.Ok
 (T.ite (sendE L Mi.zero.id size at' != 0)
 (T.ret
 (AV.tup
 [EV.s (SV.c (Value.int IntKind.u64 0)),
 EV.s (SV.d (Value.int IntKind.i64 (sendE L Mi.zero.id size at')))],
 [AB.cells 95
 [SV.ptr 1 0, SV.d (Value.int IntKind.i64 now), SV.sl 3 15 0 n 0,
 SV.d (Value.int IntKind.i64 id), SV.d (Value.int IntKind.i64 tmo)],
 AB.cells 86
 [SV.d (Value.int IntKind.i64 (sendL L Mi.zero.id size at').room),
 SV.d (Value.int IntKind.u64 (sendL L Mi.zero.id size at').first),
 SV.d (Value.int IntKind.u64 (sendL L Mi.zero.id size at').next),
 SV.d (Value.int IntKind.i64 (sendL L Mi.zero.id size at').last), SV.mp 2],
 AB.pm (sendL L Mi.zero.id size at').es, AB.row 80 15 n (miF f)]))
 (T.need (0 ≤ IntKind.i64.wrap ((↑n : Int) - 1) ∧ IntKind.i64.wrap ((↑n : Int) - 1) < (↑n : Int))
 (T.need
 (some
 (AB.cells 80
 [SV.d (Value.int IntKind.i64 0), SV.d (Value.int IntKind.i64 0),
 SV.d (Value.int IntKind.i64 0), SV.d (Value.int IntKind.i64 0),
 SV.d (Value.int IntKind.i64 0), SV.d (Value.int IntKind.i64 0),
 SV.d (Value.int IntKind.i64 0), SV.d (Value.int IntKind.i64 0),
 SV.d (Value.int IntKind.i64 0), SV.d (Value.int IntKind.i64 0),
 SV.d (Value.int IntKind.i64 0), SV.d (Value.int IntKind.i64 0),
 SV.d (Value.int IntKind.i64 0), SV.d (Value.int IntKind.i64 0),
 SV.d (Value.int IntKind.i64 0)]) =
 some
 (AB.cells 80
 [SV.d (Value.int IntKind.i64 0), SV.d (Value.int IntKind.i64 0),
 SV.d (Value.int IntKind.i64 0), SV.d (Value.int IntKind.i64 0),
 SV.d (Value.int IntKind.i64 0), SV.d (Value.int IntKind.i64 0),
 SV.d (Value.int IntKind.i64 0), SV.d (Value.int IntKind.i64 0),
 SV.d (Value.int IntKind.i64 0), SV.d (Value.int IntKind.i64 0),
 SV.d (Value.int IntKind.i64 0), SV.d (Value.int IntKind.i64 0),
 SV.d (Value.int IntKind.i64 0), SV.d (Value.int IntKind.i64 0),
 SV.d (Value.int IntKind.i64 0)]))
 (T.need (0 + (IntKind.i64.wrap ((↑n : Int) - 1)).toNat < n)
 (T.ret
 (AV.tup
 [EV.s (SV.d (Value.int IntKind.u64 (sendN L Mi.zero.id size at'))),
 EV.s (SV.c (Value.int IntKind.i64 0))],
 [AB.cells 95
 [SV.ptr 1 0, SV.d (Value.int IntKind.i64 at'), SV.sl 3 15 0 n 0,
 SV.d (Value.int IntKind.i64 id), SV.d (Value.int IntKind.i64 tmo)],
 AB.cells 86
 [SV.d (Value.int IntKind.i64 (sendL L Mi.zero.id size at').room),
 SV.d (Value.int IntKind.u64 (sendL L Mi.zero.id size at').first),
 SV.d (Value.int IntKind.u64 (sendL L Mi.zero.id size at').next),
 SV.d (Value.int IntKind.i64 (sendL L Mi.zero.id size at').last), SV.mp 2],
 AB.pm (sendL L Mi.zero.id size at').es,
 AB.row 80 15 n
 (spliceG (miF f) (0 + (IntKind.i64.wrap ((↑n : Int) - 1)).toNat) 0
 [Value.int IntKind.i64 Mi.zero.id, Value.int IntKind.i64 Mi.zero.frm,
 Value.int IntKind.i64 Mi.zero.to, Value.int IntKind.i64 Mi.zero.sent,
 Value.int IntKind.i64 Mi.zero.acked, Value.int IntKind.i64 Mi.zero.lost,
 Value.int IntKind.i64 Mi.zero.packets, Value.int IntKind.i64 Mi.zero.hits,
 Value.int IntKind.i64 Mi.zero.drops, Value.int IntKind.i64 Mi.zero.n,
 Value.int IntKind.i64 Mi.zero.sumT, Value.int IntKind.i64 Mi.zero.sumR,
 Value.int IntKind.i64 Mi.zero.sumTT, Value.int IntKind.i64 Mi.zero.sumTR,
 Value.int IntKind.i64 Mi.zero.sumRR])]))))))))))))) := by kernel_rfl


noncomputable def t34 (L : LSt) (n : Nat) (f : Nat → Mi) (now id tmo seq at' : Int) : T (AV × Heap) := callT Try.prog (entL e34) 5 34 [.e (.s (.ptr 0 0)), .d (.int .u64 seq), .d (.int .i64 at')] (bH L n (miF f) now id tmo) fun r H' => .ret (r, H')

theorem t34_eq (L : LSt) (n : Nat) (f : Nat → Mi) (now id tmo seq at' : Int) : t34 L n f now id tmo seq at' =
 T.ite (decide (at' < now))
 (T.ret
 (AV.tup
 [EV.agg
 [SV.c (Value.int IntKind.u64 0), SV.c (Value.int IntKind.i64 0), SV.c (Value.int IntKind.i64 0),
 SV.c (Value.int IntKind.i64 0)],
 EV.s (SV.c (Value.int IntKind.i64 10))],
 [AB.cells 95
 [SV.ptr 1 0, SV.d (Value.int IntKind.i64 now), SV.sl 3 15 0 n 0, SV.d (Value.int IntKind.i64 id),
 SV.d (Value.int IntKind.i64 tmo)],
 AB.cells 86
 [SV.d (Value.int IntKind.i64 L.room), SV.d (Value.int IntKind.u64 L.first),
 SV.d (Value.int IntKind.u64 L.next), SV.d (Value.int IntKind.i64 L.last), SV.mp 2],
 AB.pm L.es, AB.row 80 15 n (miF f)]))
 (T.ite (decide (at' > 1099511627776))
 (T.ret
 (AV.tup
 [EV.agg
 [SV.c (Value.int IntKind.u64 0), SV.c (Value.int IntKind.i64 0), SV.c (Value.int IntKind.i64 0),
 SV.c (Value.int IntKind.i64 0)],
 EV.s (SV.c (Value.int IntKind.i64 10))],
 [AB.cells 95
 [SV.ptr 1 0, SV.d (Value.int IntKind.i64 now), SV.sl 3 15 0 n 0, SV.d (Value.int IntKind.i64 id),
 SV.d (Value.int IntKind.i64 tmo)],
 AB.cells 86
 [SV.d (Value.int IntKind.i64 L.room), SV.d (Value.int IntKind.u64 L.first),
 SV.d (Value.int IntKind.u64 L.next), SV.d (Value.int IntKind.i64 L.last), SV.mp 2],
 AB.pm L.es, AB.row 80 15 n (miF f)]))
 (T.ite (takeE L seq != 0)
 (T.ret
 (AV.tup
 [EV.agg
 [SV.c (Value.int IntKind.u64 0), SV.c (Value.int IntKind.i64 0), SV.c (Value.int IntKind.i64 0),
 SV.c (Value.int IntKind.i64 0)],
 EV.s (SV.d (Value.int IntKind.i64 (takeE L seq)))],
 [AB.cells 95
 [SV.ptr 1 0, SV.d (Value.int IntKind.i64 now), SV.sl 3 15 0 n 0, SV.d (Value.int IntKind.i64 id),
 SV.d (Value.int IntKind.i64 tmo)],
 AB.cells 86
 [SV.d (Value.int IntKind.i64 (takeL L seq).room), SV.d (Value.int IntKind.u64 (takeL L seq).first),
 SV.d (Value.int IntKind.u64 (takeL L seq).next), SV.d (Value.int IntKind.i64 (takeL L seq).last),
 SV.mp 2],
 AB.pm (takeL L seq).es, AB.row 80 15 n (miF f)]))
 (T.need (some (AB.cells 110 [SV.fn 84 [(5, 0)]]) = some (AB.cells 110 [SV.fn 84 [(5, 0)]]))
 (T.need
 (some
 (AB.cells 36
 [SV.d (Value.int IntKind.u64 (takeP L seq).seq), SV.d (Value.int IntKind.i64 (takeP L seq).mi),
 SV.d (Value.int IntKind.i64 (takeP L seq).size), SV.d (Value.int IntKind.i64 (takeP L seq).sent)]) =
 some
 (AB.cells 36
 [SV.d (Value.int IntKind.u64 (takeP L seq).seq), SV.d (Value.int IntKind.i64 (takeP L seq).mi),
 SV.d (Value.int IntKind.i64 (takeP L seq).size), SV.d (Value.int IntKind.i64 (takeP L seq).sent)]))
 (T.ite true
 (T.need ((0 : Int) ≤ 0 ∧ (0 : Int) < (↑1 : Int))
 (T.need
 (0 <
 (chunksOf 4 1
 [Value.int IntKind.u64 (takeP L seq).seq, Value.int IntKind.i64 (takeP L seq).mi,
 Value.int IntKind.i64 (takeP L seq).size, Value.int IntKind.i64 (takeP L seq).sent]).length)
 (T.need ((0 : Int) ≤ 0 ∧ (0 : Int) < (↑n : Int))
 (T.need (0 < n)
 (T.need
 (0 ≤ IntKind.i64.wrap ((takeP L seq).mi - (f 0).id) ∧
 IntKind.i64.wrap ((takeP L seq).mi - (f 0).id) < (↑n : Int))
 (T.need (0 + (IntKind.i64.wrap ((takeP L seq).mi - (f 0).id)).toNat < n)
 ((T.ite
 (ackE (f (0 + (IntKind.i64.wrap ((takeP L seq).mi - (f 0).id)).toNat)) (takeP L seq).size
 (takeP L seq).sent at' ==
 0)
 (T.need (0 + (IntKind.i64.wrap ((takeP L seq).mi - (f 0).id)).toNat < n)
 (T.ite false
 (T.need (0 ≤ IntKind.i64.wrap (0 + 1) ∧ IntKind.i64.wrap (0 + 1) < (↑1 : Int))
 (T.need
 (1 <
 (chunksOf 4 1
 [Value.int IntKind.u64 (takeP L seq).seq,
 Value.int IntKind.i64 (takeP L seq).mi,
 Value.int IntKind.i64 (takeP L seq).size,
 Value.int IntKind.i64 (takeP L seq).sent]).length)
 T.fail))
 (T.need
 (some
 (AB.cells 36
 [SV.d (Value.int IntKind.u64 (takeP L seq).seq),
 SV.d (Value.int IntKind.i64 (takeP L seq).mi),
 SV.d (Value.int IntKind.i64 (takeP L seq).size),
 SV.d (Value.int IntKind.i64 (takeP L seq).sent)]) =
 some
 (AB.cells 36
 [SV.d (Value.int IntKind.u64 (takeP L seq).seq),
 SV.d (Value.int IntKind.i64 (takeP L seq).mi),
 SV.d (Value.int IntKind.i64 (takeP L seq).size),
 SV.d (Value.int IntKind.i64 (takeP L seq).sent)]))
 (T.ret
 (AV.tup
 [EV.agg
 [SV.d (Value.int IntKind.u64 (takeP L seq).seq),
 SV.d (Value.int IntKind.i64 (takeP L seq).mi),
 SV.d (Value.int IntKind.i64 (takeP L seq).size),
 SV.d (Value.int IntKind.i64 (takeP L seq).sent)],
 EV.s (SV.c (Value.int IntKind.i64 0))],
 [AB.cells 95
 [SV.ptr 1 0, SV.d (Value.int IntKind.i64 at'), SV.sl 3 15 0 n 0,
 SV.d (Value.int IntKind.i64 id), SV.d (Value.int IntKind.i64 tmo)],
 AB.cells 86
 [SV.d (Value.int IntKind.i64 (takeL L seq).room),
 SV.d (Value.int IntKind.u64 (takeL L seq).first),
 SV.d (Value.int IntKind.u64 (takeL L seq).next),
 SV.d (Value.int IntKind.i64 (takeL L seq).last), SV.mp 2],
 AB.pm (takeL L seq).es,
 AB.row 80 15 n
 (spliceG (miF f)
 (0 + (IntKind.i64.wrap ((takeP L seq).mi - (f 0).id)).toNat) 0
 [Value.int IntKind.i64
 (ackM (f (0 + (IntKind.i64.wrap ((takeP L seq).mi - (f 0).id)).toNat))
 (takeP L seq).size (takeP L seq).sent at').id,
 Value.int IntKind.i64
 (ackM (f (0 + (IntKind.i64.wrap ((takeP L seq).mi - (f 0).id)).toNat))
 (takeP L seq).size (takeP L seq).sent at').frm,
 Value.int IntKind.i64
 (ackM (f (0 + (IntKind.i64.wrap ((takeP L seq).mi - (f 0).id)).toNat))
 (takeP L seq).size (takeP L seq).sent at').to,
 Value.int IntKind.i64
 (ackM (f (0 + (IntKind.i64.wrap ((takeP L seq).mi - (f 0).id)).toNat))
 (takeP L seq).size (takeP L seq).sent at').sent,
 Value.int IntKind.i64
 (ackM (f (0 + (IntKind.i64.wrap ((takeP L seq).mi - (f 0).id)).toNat))
 (takeP L seq).size (takeP L seq).sent at').acked,
 Value.int IntKind.i64
 (ackM (f (0 + (IntKind.i64.wrap ((takeP L seq).mi - (f 0).id)).toNat))
 (takeP L seq).size (takeP L seq).sent at').lost,
 Value.int IntKind.i64
 (ackM (f (0 + (IntKind.i64.wrap ((takeP L seq).mi - (f 0).id)).toNat))
 (takeP L seq).size (takeP L seq).sent at').packets,
 Value.int IntKind.i64
 (ackM (f (0 + (IntKind.i64.wrap ((takeP L seq).mi - (f 0).id)).toNat))
 (takeP L seq).size (takeP L seq).sent at').hits,
 Value.int IntKind.i64
 (ackM (f (0 + (IntKind.i64.wrap ((takeP L seq).mi - (f 0).id)).toNat))
 (takeP L seq).size (takeP L seq).sent at').drops,
 Value.int IntKind.i64
 (ackM (f (0 + (IntKind.i64.wrap ((takeP L seq).mi - (f 0).id)).toNat))
 (takeP L seq).size (takeP L seq).sent at').n,
 Value.int IntKind.i64
 (ackM (f (0 + (IntKind.i64.wrap ((takeP L seq).mi - (f 0).id)).toNat))
 (takeP L seq).size (takeP L seq).sent at').sumT,
 Value.int IntKind.i64
 (ackM (f (0 + (IntKind.i64.wrap ((takeP L seq).mi - (f 0).id)).toNat))
 (takeP L seq).size (takeP L seq).sent at').sumR,
 Value.int IntKind.i64
 (ackM (f (0 + (IntKind.i64.wrap ((takeP L seq).mi - (f 0).id)).toNat))
 (takeP L seq).size (takeP L seq).sent at').sumTT,
 Value.int IntKind.i64
 (ackM (f (0 + (IntKind.i64.wrap ((takeP L seq).mi - (f 0).id)).toNat))
 (takeP L seq).size (takeP L seq).sent at').sumTR,
 Value.int IntKind.i64
 (ackM (f (0 + (IntKind.i64.wrap ((takeP L seq).mi - (f 0).id)).toNat))
 (takeP L seq).size (takeP L seq).sent at').sumRR])])))))
 (T.ite
 (ackE (f (0 + (IntKind.i64.wrap ((takeP L seq).mi - (f 0).id)).toNat))
 (takeP L seq).size (takeP L seq).sent at' !=
 0)
 (T.need
 (some
 (AB.cells 36
 [SV.d (Value.int IntKind.u64 (takeP L seq).seq),
 SV.d (Value.int IntKind.i64 (takeP L seq).mi),
 SV.d (Value.int IntKind.i64 (takeP L seq).size),
 SV.d (Value.int IntKind.i64 (takeP L seq).sent)]) =
 some
 (AB.cells 36
 [SV.d (Value.int IntKind.u64 (takeP L seq).seq),
 SV.d (Value.int IntKind.i64 (takeP L seq).mi),
 SV.d (Value.int IntKind.i64 (takeP L seq).size),
 SV.d (Value.int IntKind.i64 (takeP L seq).sent)]))
 (T.ret
 (AV.tup
 [EV.agg
 [SV.d (Value.int IntKind.u64 (takeP L seq).seq),
 SV.d (Value.int IntKind.i64 (takeP L seq).mi),
 SV.d (Value.int IntKind.i64 (takeP L seq).size),
 SV.d (Value.int IntKind.i64 (takeP L seq).sent)],
 EV.s
 (SV.d
 (Value.int IntKind.i64
 (ackE (f (0 + (IntKind.i64.wrap ((takeP L seq).mi - (f 0).id)).toNat))
 (takeP L seq).size (takeP L seq).sent at')))],
 [AB.cells 95
 [SV.ptr 1 0, SV.d (Value.int IntKind.i64 at'), SV.sl 3 15 0 n 0,
 SV.d (Value.int IntKind.i64 id), SV.d (Value.int IntKind.i64 tmo)],
 AB.cells 86
 [SV.d (Value.int IntKind.i64 (takeL L seq).room),
 SV.d (Value.int IntKind.u64 (takeL L seq).first),
 SV.d (Value.int IntKind.u64 (takeL L seq).next),
 SV.d (Value.int IntKind.i64 (takeL L seq).last), SV.mp 2],
 AB.pm (takeL L seq).es, AB.row 80 15 n (miF f)])))
 (T.need (0 + (IntKind.i64.wrap ((takeP L seq).mi - (f 0).id)).toNat < n)
 (T.ite false
 (T.need (0 ≤ IntKind.i64.wrap (0 + 1) ∧ IntKind.i64.wrap (0 + 1) < (↑1 : Int))
 (T.need
 (1 <
 (chunksOf 4 1
 [Value.int IntKind.u64 (takeP L seq).seq,
 Value.int IntKind.i64 (takeP L seq).mi,
 Value.int IntKind.i64 (takeP L seq).size,
 Value.int IntKind.i64 (takeP L seq).sent]).length)
 T.fail))
 (T.need
 (some
 (AB.cells 36
 [SV.d (Value.int IntKind.u64 (takeP L seq).seq),
 SV.d (Value.int IntKind.i64 (takeP L seq).mi),
 SV.d (Value.int IntKind.i64 (takeP L seq).size),
 SV.d (Value.int IntKind.i64 (takeP L seq).sent)]) =
 some
 (AB.cells 36
 [SV.d (Value.int IntKind.u64 (takeP L seq).seq),
 SV.d (Value.int IntKind.i64 (takeP L seq).mi),
 SV.d (Value.int IntKind.i64 (takeP L seq).size),
 SV.d (Value.int IntKind.i64 (takeP L seq).sent)]))
 (T.ret
 (AV.tup
 [EV.agg
 [SV.d (Value.int IntKind.u64 (takeP L seq).seq),
 SV.d (Value.int IntKind.i64 (takeP L seq).mi),
 SV.d (Value.int IntKind.i64 (takeP L seq).size),
 SV.d (Value.int IntKind.i64 (takeP L seq).sent)],
 EV.s (SV.c (Value.int IntKind.i64 0))],
 [AB.cells 95
 [SV.ptr 1 0, SV.d (Value.int IntKind.i64 at'), SV.sl 3 15 0 n 0,
 SV.d (Value.int IntKind.i64 id), SV.d (Value.int IntKind.i64 tmo)],
 AB.cells 86
 [SV.d (Value.int IntKind.i64 (takeL L seq).room),
 SV.d (Value.int IntKind.u64 (takeL L seq).first),
 SV.d (Value.int IntKind.u64 (takeL L seq).next),
 SV.d (Value.int IntKind.i64 (takeL L seq).last), SV.mp 2],
 AB.pm (takeL L seq).es,
 AB.row 80 15 n
 (spliceG (miF f)
 (0 + (IntKind.i64.wrap ((takeP L seq).mi - (f 0).id)).toNat) 0
 [Value.int IntKind.i64 Mi.zero.id, Value.int IntKind.i64 Mi.zero.frm,
 Value.int IntKind.i64 Mi.zero.to, Value.int IntKind.i64 Mi.zero.sent,
 Value.int IntKind.i64 Mi.zero.acked,
 Value.int IntKind.i64 Mi.zero.lost,
 Value.int IntKind.i64 Mi.zero.packets,
 Value.int IntKind.i64 Mi.zero.hits,
 Value.int IntKind.i64 Mi.zero.drops, Value.int IntKind.i64 Mi.zero.n,
 Value.int IntKind.i64 Mi.zero.sumT,
 Value.int IntKind.i64 Mi.zero.sumR,
 Value.int IntKind.i64 Mi.zero.sumTT,
 Value.int IntKind.i64 Mi.zero.sumTR,
 Value.int IntKind.i64 Mi.zero.sumRR])]))))))).both
 (T.need
 (some
 (AB.cells 36
 [SV.d (Value.int IntKind.u64 (takeP L seq).seq),
 SV.d (Value.int IntKind.i64 (takeP L seq).mi),
 SV.d (Value.int IntKind.i64 (takeP L seq).size),
 SV.d (Value.int IntKind.i64 (takeP L seq).sent)]) =
 some
 (AB.cells 36
 [SV.d (Value.int IntKind.u64 (takeP L seq).seq),
 SV.d (Value.int IntKind.i64 (takeP L seq).mi),
 SV.d (Value.int IntKind.i64 (takeP L seq).size),
 SV.d (Value.int IntKind.i64 (takeP L seq).sent)]))
 (T.need (some (AB.row 80 15 n (miF f)) = some (AB.row 80 15 n (miF f)))
 (T.need
 (some (AB.cells 110 [SV.fn 84 [(5, 0)]]) = some (AB.cells 110 [SV.fn 84 [(5, 0)]]))
 (T.ite
 (ackE (f (0 + (IntKind.i64.wrap ((takeP L seq).mi - (f 0).id)).toNat))
 (takeP L seq).size (takeP L seq).sent at' ==
 0)
 (T.need (0 + (IntKind.i64.wrap ((takeP L seq).mi - (f 0).id)).toNat < n)
 (T.ite false
 (T.need (0 ≤ IntKind.i64.wrap (0 + 1) ∧ IntKind.i64.wrap (0 + 1) < (↑1 : Int))
 (T.need
 (1 <
 (chunksOf 4 1
 [Value.int IntKind.u64 (takeP L seq).seq,
 Value.int IntKind.i64 (takeP L seq).mi,
 Value.int IntKind.i64 (takeP L seq).size,
 Value.int IntKind.i64 (takeP L seq).sent]).length)
 T.fail))
 (T.need
 (some
 (AB.cells 36
 [SV.d (Value.int IntKind.u64 (takeP L seq).seq),
 SV.d (Value.int IntKind.i64 (takeP L seq).mi),
 SV.d (Value.int IntKind.i64 (takeP L seq).size),
 SV.d (Value.int IntKind.i64 (takeP L seq).sent)]) =
 some
 (AB.cells 36
 [SV.d (Value.int IntKind.u64 (takeP L seq).seq),
 SV.d (Value.int IntKind.i64 (takeP L seq).mi),
 SV.d (Value.int IntKind.i64 (takeP L seq).size),
 SV.d (Value.int IntKind.i64 (takeP L seq).sent)]))
 (T.ret
 (AV.tup
 [EV.agg
 [SV.d (Value.int IntKind.u64 (takeP L seq).seq),
 SV.d (Value.int IntKind.i64 (takeP L seq).mi),
 SV.d (Value.int IntKind.i64 (takeP L seq).size),
 SV.d (Value.int IntKind.i64 (takeP L seq).sent)],
 EV.s (SV.c (Value.int IntKind.i64 0))],
 [AB.cells 95
 [SV.ptr 1 0, SV.d (Value.int IntKind.i64 at'), SV.sl 3 15 0 n 0,
 SV.d (Value.int IntKind.i64 id), SV.d (Value.int IntKind.i64 tmo)],
 AB.cells 86
 [SV.d (Value.int IntKind.i64 (takeL L seq).room),
 SV.d (Value.int IntKind.u64 (takeL L seq).first),
 SV.d (Value.int IntKind.u64 (takeL L seq).next),
 SV.d (Value.int IntKind.i64 (takeL L seq).last), SV.mp 2],
 AB.pm (takeL L seq).es,
 AB.row 80 15 n
 (spliceG (miF f)
 (0 + (IntKind.i64.wrap ((takeP L seq).mi - (f 0).id)).toNat) 0
 [Value.int IntKind.i64
 (ackM
 (f
 (0 +
 (IntKind.i64.wrap ((takeP L seq).mi - (f 0).id)).toNat))
 (takeP L seq).size (takeP L seq).sent at').id,
 Value.int IntKind.i64
 (ackM
 (f
 (0 +
 (IntKind.i64.wrap ((takeP L seq).mi - (f 0).id)).toNat))
 (takeP L seq).size (takeP L seq).sent at').frm,
 Value.int IntKind.i64
 (ackM
 (f
 (0 +
 (IntKind.i64.wrap ((takeP L seq).mi - (f 0).id)).toNat))
 (takeP L seq).size (takeP L seq).sent at').to,
 Value.int IntKind.i64
 (ackM
 (f
 (0 +
 (IntKind.i64.wrap ((takeP L seq).mi - (f 0).id)).toNat))
 (takeP L seq).size (takeP L seq).sent at').sent,
 Value.int IntKind.i64
 (ackM
 (f
 (0 +
 (IntKind.i64.wrap ((takeP L seq).mi - (f 0).id)).toNat))
 (takeP L seq).size (takeP L seq).sent at').acked,
 Value.int IntKind.i64
 (ackM
 (f
 (0 +
 (IntKind.i64.wrap ((takeP L seq).mi - (f 0).id)).toNat))
 (takeP L seq).size (takeP L seq).sent at').lost,
 Value.int IntKind.i64
 (ackM
 (f
 (0 +
 (IntKind.i64.wrap ((takeP L seq).mi - (f 0).id)).toNat))
 (takeP L seq).size (takeP L seq).sent at').packets,
 Value.int IntKind.i64
 (ackM
 (f
 (0 +
 (IntKind.i64.wrap ((takeP L seq).mi - (f 0).id)).toNat))
 (takeP L seq).size (takeP L seq).sent at').hits,
 Value.int IntKind.i64
 (ackM
 (f
 (0 +
 (IntKind.i64.wrap ((takeP L seq).mi - (f 0).id)).toNat))
 (takeP L seq).size (takeP L seq).sent at').drops,
 Value.int IntKind.i64
 (ackM
 (f
 (0 +
 (IntKind.i64.wrap ((takeP L seq).mi - (f 0).id)).toNat))
 (takeP L seq).size (takeP L seq).sent at').n,
 Value.int IntKind.i64
 (ackM
 (f
 (0 +
 (IntKind.i64.wrap ((takeP L seq).mi - (f 0).id)).toNat))
 (takeP L seq).size (takeP L seq).sent at').sumT,
 Value.int IntKind.i64
 (ackM
 (f
 (0 +
 (IntKind.i64.wrap ((takeP L seq).mi - (f 0).id)).toNat))
 (takeP L seq).size (takeP L seq).sent at').sumR,
 Value.int IntKind.i64
 (ackM
 (f
 (0 +
 (IntKind.i64.wrap ((takeP L seq).mi - (f 0).id)).toNat))
 (takeP L seq).size (takeP L seq).sent at').sumTT,
 Value.int IntKind.i64
 (ackM
 (f
 (0 +
 (IntKind.i64.wrap ((takeP L seq).mi - (f 0).id)).toNat))
 (takeP L seq).size (takeP L seq).sent at').sumTR,
 Value.int IntKind.i64
 (ackM
 (f
 (0 +
 (IntKind.i64.wrap ((takeP L seq).mi - (f 0).id)).toNat))
 (takeP L seq).size (takeP L seq).sent at').sumRR])])))))
 (T.ite
 (ackE (f (0 + (IntKind.i64.wrap ((takeP L seq).mi - (f 0).id)).toNat))
 (takeP L seq).size (takeP L seq).sent at' !=
 0)
 (T.need
 (some
 (AB.cells 36
 [SV.d (Value.int IntKind.u64 (takeP L seq).seq),
 SV.d (Value.int IntKind.i64 (takeP L seq).mi),
 SV.d (Value.int IntKind.i64 (takeP L seq).size),
 SV.d (Value.int IntKind.i64 (takeP L seq).sent)]) =
 some
 (AB.cells 36
 [SV.d (Value.int IntKind.u64 (takeP L seq).seq),
 SV.d (Value.int IntKind.i64 (takeP L seq).mi),
 SV.d (Value.int IntKind.i64 (takeP L seq).size),
 SV.d (Value.int IntKind.i64 (takeP L seq).sent)]))
 (T.ret
 (AV.tup
 [EV.agg
 [SV.d (Value.int IntKind.u64 (takeP L seq).seq),
 SV.d (Value.int IntKind.i64 (takeP L seq).mi),
 SV.d (Value.int IntKind.i64 (takeP L seq).size),
 SV.d (Value.int IntKind.i64 (takeP L seq).sent)],
 EV.s
 (SV.d
 (Value.int IntKind.i64
 (ackE
 (f (0 + (IntKind.i64.wrap ((takeP L seq).mi - (f 0).id)).toNat))
 (takeP L seq).size (takeP L seq).sent at')))],
 [AB.cells 95
 [SV.ptr 1 0, SV.d (Value.int IntKind.i64 at'), SV.sl 3 15 0 n 0,
 SV.d (Value.int IntKind.i64 id), SV.d (Value.int IntKind.i64 tmo)],
 AB.cells 86
 [SV.d (Value.int IntKind.i64 (takeL L seq).room),
 SV.d (Value.int IntKind.u64 (takeL L seq).first),
 SV.d (Value.int IntKind.u64 (takeL L seq).next),
 SV.d (Value.int IntKind.i64 (takeL L seq).last), SV.mp 2],
 AB.pm (takeL L seq).es, AB.row 80 15 n (miF f)])))
 (T.need (0 + (IntKind.i64.wrap ((takeP L seq).mi - (f 0).id)).toNat < n)
 (T.ite false
 (T.need (0 ≤ IntKind.i64.wrap (0 + 1) ∧ IntKind.i64.wrap (0 + 1) < (↑1 : Int))
 (T.need
 (1 <
 (chunksOf 4 1
 [Value.int IntKind.u64 (takeP L seq).seq,
 Value.int IntKind.i64 (takeP L seq).mi,
 Value.int IntKind.i64 (takeP L seq).size,
 Value.int IntKind.i64 (takeP L seq).sent]).length)
 T.fail))
 (T.need
 (some
 (AB.cells 36
 [SV.d (Value.int IntKind.u64 (takeP L seq).seq),
 SV.d (Value.int IntKind.i64 (takeP L seq).mi),
 SV.d (Value.int IntKind.i64 (takeP L seq).size),
 SV.d (Value.int IntKind.i64 (takeP L seq).sent)]) =
 some
 (AB.cells 36
 [SV.d (Value.int IntKind.u64 (takeP L seq).seq),
 SV.d (Value.int IntKind.i64 (takeP L seq).mi),
 SV.d (Value.int IntKind.i64 (takeP L seq).size),
 SV.d (Value.int IntKind.i64 (takeP L seq).sent)]))
 (T.ret
 (AV.tup
 [EV.agg
 [SV.d (Value.int IntKind.u64 (takeP L seq).seq),
 SV.d (Value.int IntKind.i64 (takeP L seq).mi),
 SV.d (Value.int IntKind.i64 (takeP L seq).size),
 SV.d (Value.int IntKind.i64 (takeP L seq).sent)],
 EV.s (SV.c (Value.int IntKind.i64 0))],
 [AB.cells 95
 [SV.ptr 1 0, SV.d (Value.int IntKind.i64 at'), SV.sl 3 15 0 n 0,
 SV.d (Value.int IntKind.i64 id), SV.d (Value.int IntKind.i64 tmo)],
 AB.cells 86
 [SV.d (Value.int IntKind.i64 (takeL L seq).room),
 SV.d (Value.int IntKind.u64 (takeL L seq).first),
 SV.d (Value.int IntKind.u64 (takeL L seq).next),
 SV.d (Value.int IntKind.i64 (takeL L seq).last), SV.mp 2],
 AB.pm (takeL L seq).es,
 AB.row 80 15 n
 (spliceG (miF f)
 (0 + (IntKind.i64.wrap ((takeP L seq).mi - (f 0).id)).toNat) 0
 [Value.int IntKind.i64 Mi.zero.id,
 Value.int IntKind.i64 Mi.zero.frm,
 Value.int IntKind.i64 Mi.zero.to,
 Value.int IntKind.i64 Mi.zero.sent,
 Value.int IntKind.i64 Mi.zero.acked,
 Value.int IntKind.i64 Mi.zero.lost,
 Value.int IntKind.i64 Mi.zero.packets,
 Value.int IntKind.i64 Mi.zero.hits,
 Value.int IntKind.i64 Mi.zero.drops,
 Value.int IntKind.i64 Mi.zero.n,
 Value.int IntKind.i64 Mi.zero.sumT,
 Value.int IntKind.i64 Mi.zero.sumR,
 Value.int IntKind.i64 Mi.zero.sumTT,
 Value.int IntKind.i64 Mi.zero.sumTR,
 Value.int IntKind.i64 Mi.zero.sumRR])])))))))))))))))))
 (T.need
 (some
 (AB.cells 36
 [SV.d (Value.int IntKind.u64 (takeP L seq).seq), SV.d (Value.int IntKind.i64 (takeP L seq).mi),
 SV.d (Value.int IntKind.i64 (takeP L seq).size),
 SV.d (Value.int IntKind.i64 (takeP L seq).sent)]) =
 some
 (AB.cells 36
 [SV.d (Value.int IntKind.u64 (takeP L seq).seq), SV.d (Value.int IntKind.i64 (takeP L seq).mi),
 SV.d (Value.int IntKind.i64 (takeP L seq).size),
 SV.d (Value.int IntKind.i64 (takeP L seq).sent)]))
 (T.ret
 (AV.tup
 [EV.agg
 [SV.d (Value.int IntKind.u64 (takeP L seq).seq), SV.d (Value.int IntKind.i64 (takeP L seq).mi),
 SV.d (Value.int IntKind.i64 (takeP L seq).size),
 SV.d (Value.int IntKind.i64 (takeP L seq).sent)],
 EV.s (SV.c (Value.int IntKind.i64 0))],
 [AB.cells 95
 [SV.ptr 1 0, SV.d (Value.int IntKind.i64 at'), SV.sl 3 15 0 n 0, SV.d (Value.int IntKind.i64 id),
 SV.d (Value.int IntKind.i64 tmo)],
 AB.cells 86
 [SV.d (Value.int IntKind.i64 (takeL L seq).room),
 SV.d (Value.int IntKind.u64 (takeL L seq).first),
 SV.d (Value.int IntKind.u64 (takeL L seq).next),
 SV.d (Value.int IntKind.i64 (takeL L seq).last), SV.mp 2],
 AB.pm (takeL L seq).es, AB.row 80 15 n (miF f)])))))))) := by kernel_rfl


noncomputable def t35 (L : LSt) (n : Nat) (f : Nat → Mi) (now id tmo seq at' : Int) : T (AV × Heap) := callT Try.prog (entL e35) 5 35 [.e (.s (.ptr 0 0)), .d (.int .u64 seq), .d (.int .i64 at')] (bH L n (miF f) now id tmo) fun r H' => .ret (r, H')

theorem t35_eq (L : LSt) (n : Nat) (f : Nat → Mi) (now id tmo seq at' : Int) : t35 L n f now id tmo seq at' =
 T.ite (decide (at' < now))
 (T.ret
 (AV.tup
 [EV.agg
 [SV.c (Value.int IntKind.u64 0), SV.c (Value.int IntKind.i64 0), SV.c (Value.int IntKind.i64 0),
 SV.c (Value.int IntKind.i64 0)],
 EV.s (SV.c (Value.int IntKind.i64 10))],
 [AB.cells 95
 [SV.ptr 1 0, SV.d (Value.int IntKind.i64 now), SV.sl 3 15 0 n 0, SV.d (Value.int IntKind.i64 id),
 SV.d (Value.int IntKind.i64 tmo)],
 AB.cells 86
 [SV.d (Value.int IntKind.i64 L.room), SV.d (Value.int IntKind.u64 L.first),
 SV.d (Value.int IntKind.u64 L.next), SV.d (Value.int IntKind.i64 L.last), SV.mp 2],
 AB.pm L.es, AB.row 80 15 n (miF f)]))
 (T.ite (decide (at' > 1099511627776))
 (T.ret
 (AV.tup
 [EV.agg
 [SV.c (Value.int IntKind.u64 0), SV.c (Value.int IntKind.i64 0), SV.c (Value.int IntKind.i64 0),
 SV.c (Value.int IntKind.i64 0)],
 EV.s (SV.c (Value.int IntKind.i64 10))],
 [AB.cells 95
 [SV.ptr 1 0, SV.d (Value.int IntKind.i64 now), SV.sl 3 15 0 n 0, SV.d (Value.int IntKind.i64 id),
 SV.d (Value.int IntKind.i64 tmo)],
 AB.cells 86
 [SV.d (Value.int IntKind.i64 L.room), SV.d (Value.int IntKind.u64 L.first),
 SV.d (Value.int IntKind.u64 L.next), SV.d (Value.int IntKind.i64 L.last), SV.mp 2],
 AB.pm L.es, AB.row 80 15 n (miF f)]))
 (T.ite (takeE L seq != 0)
 (T.ret
 (AV.tup
 [EV.agg
 [SV.c (Value.int IntKind.u64 0), SV.c (Value.int IntKind.i64 0), SV.c (Value.int IntKind.i64 0),
 SV.c (Value.int IntKind.i64 0)],
 EV.s (SV.d (Value.int IntKind.i64 (takeE L seq)))],
 [AB.cells 95
 [SV.ptr 1 0, SV.d (Value.int IntKind.i64 now), SV.sl 3 15 0 n 0, SV.d (Value.int IntKind.i64 id),
 SV.d (Value.int IntKind.i64 tmo)],
 AB.cells 86
 [SV.d (Value.int IntKind.i64 (takeL L seq).room), SV.d (Value.int IntKind.u64 (takeL L seq).first),
 SV.d (Value.int IntKind.u64 (takeL L seq).next), SV.d (Value.int IntKind.i64 (takeL L seq).last),
 SV.mp 2],
 AB.pm (takeL L seq).es, AB.row 80 15 n (miF f)]))
 (T.need (some (AB.cells 110 [SV.fn 85 []]) = some (AB.cells 110 [SV.fn 85 []]))
 (T.need
 (some
 (AB.cells 36
 [SV.d (Value.int IntKind.u64 (takeP L seq).seq), SV.d (Value.int IntKind.i64 (takeP L seq).mi),
 SV.d (Value.int IntKind.i64 (takeP L seq).size), SV.d (Value.int IntKind.i64 (takeP L seq).sent)]) =
 some
 (AB.cells 36
 [SV.d (Value.int IntKind.u64 (takeP L seq).seq), SV.d (Value.int IntKind.i64 (takeP L seq).mi),
 SV.d (Value.int IntKind.i64 (takeP L seq).size), SV.d (Value.int IntKind.i64 (takeP L seq).sent)]))
 (T.ite true
 (T.need ((0 : Int) ≤ 0 ∧ (0 : Int) < (↑1 : Int))
 (T.need
 (0 <
 (chunksOf 4 1
 [Value.int IntKind.u64 (takeP L seq).seq, Value.int IntKind.i64 (takeP L seq).mi,
 Value.int IntKind.i64 (takeP L seq).size, Value.int IntKind.i64 (takeP L seq).sent]).length)
 (T.need ((0 : Int) ≤ 0 ∧ (0 : Int) < (↑n : Int))
 (T.need (0 < n)
 (T.need
 (0 ≤ IntKind.i64.wrap ((takeP L seq).mi - (f 0).id) ∧
 IntKind.i64.wrap ((takeP L seq).mi - (f 0).id) < (↑n : Int))
 (T.need (0 + (IntKind.i64.wrap ((takeP L seq).mi - (f 0).id)).toNat < n)
 ((T.ite
 (loseE (f (0 + (IntKind.i64.wrap ((takeP L seq).mi - (f 0).id)).toNat))
 (takeP L seq).size ==
 0)
 (T.need (0 + (IntKind.i64.wrap ((takeP L seq).mi - (f 0).id)).toNat < n)
 (T.ite false
 (T.need (0 ≤ IntKind.i64.wrap (0 + 1) ∧ IntKind.i64.wrap (0 + 1) < (↑1 : Int))
 (T.need
 (1 <
 (chunksOf 4 1
 [Value.int IntKind.u64 (takeP L seq).seq,
 Value.int IntKind.i64 (takeP L seq).mi,
 Value.int IntKind.i64 (takeP L seq).size,
 Value.int IntKind.i64 (takeP L seq).sent]).length)
 T.fail))
 (T.need
 (some
 (AB.cells 36
 [SV.d (Value.int IntKind.u64 (takeP L seq).seq),
 SV.d (Value.int IntKind.i64 (takeP L seq).mi),
 SV.d (Value.int IntKind.i64 (takeP L seq).size),
 SV.d (Value.int IntKind.i64 (takeP L seq).sent)]) =
 some
 (AB.cells 36
 [SV.d (Value.int IntKind.u64 (takeP L seq).seq),
 SV.d (Value.int IntKind.i64 (takeP L seq).mi),
 SV.d (Value.int IntKind.i64 (takeP L seq).size),
 SV.d (Value.int IntKind.i64 (takeP L seq).sent)]))
 (T.ret
 (AV.tup
 [EV.agg
 [SV.d (Value.int IntKind.u64 (takeP L seq).seq),
 SV.d (Value.int IntKind.i64 (takeP L seq).mi),
 SV.d (Value.int IntKind.i64 (takeP L seq).size),
 SV.d (Value.int IntKind.i64 (takeP L seq).sent)],
 EV.s (SV.c (Value.int IntKind.i64 0))],
 [AB.cells 95
 [SV.ptr 1 0, SV.d (Value.int IntKind.i64 at'), SV.sl 3 15 0 n 0,
 SV.d (Value.int IntKind.i64 id), SV.d (Value.int IntKind.i64 tmo)],
 AB.cells 86
 [SV.d (Value.int IntKind.i64 (takeL L seq).room),
 SV.d (Value.int IntKind.u64 (takeL L seq).first),
 SV.d (Value.int IntKind.u64 (takeL L seq).next),
 SV.d (Value.int IntKind.i64 (takeL L seq).last), SV.mp 2],
 AB.pm (takeL L seq).es,
 AB.row 80 15 n
 (spliceG (miF f)
 (0 + (IntKind.i64.wrap ((takeP L seq).mi - (f 0).id)).toNat) 0
 [Value.int IntKind.i64
 (loseM
 (f (0 + (IntKind.i64.wrap ((takeP L seq).mi - (f 0).id)).toNat))
 (takeP L seq).size).id,
 Value.int IntKind.i64
 (loseM
 (f (0 + (IntKind.i64.wrap ((takeP L seq).mi - (f 0).id)).toNat))
 (takeP L seq).size).frm,
 Value.int IntKind.i64
 (loseM
 (f (0 + (IntKind.i64.wrap ((takeP L seq).mi - (f 0).id)).toNat))
 (takeP L seq).size).to,
 Value.int IntKind.i64
 (loseM
 (f (0 + (IntKind.i64.wrap ((takeP L seq).mi - (f 0).id)).toNat))
 (takeP L seq).size).sent,
 Value.int IntKind.i64
 (loseM
 (f (0 + (IntKind.i64.wrap ((takeP L seq).mi - (f 0).id)).toNat))
 (takeP L seq).size).acked,
 Value.int IntKind.i64
 (loseM
 (f (0 + (IntKind.i64.wrap ((takeP L seq).mi - (f 0).id)).toNat))
 (takeP L seq).size).lost,
 Value.int IntKind.i64
 (loseM
 (f (0 + (IntKind.i64.wrap ((takeP L seq).mi - (f 0).id)).toNat))
 (takeP L seq).size).packets,
 Value.int IntKind.i64
 (loseM
 (f (0 + (IntKind.i64.wrap ((takeP L seq).mi - (f 0).id)).toNat))
 (takeP L seq).size).hits,
 Value.int IntKind.i64
 (loseM
 (f (0 + (IntKind.i64.wrap ((takeP L seq).mi - (f 0).id)).toNat))
 (takeP L seq).size).drops,
 Value.int IntKind.i64
 (loseM
 (f (0 + (IntKind.i64.wrap ((takeP L seq).mi - (f 0).id)).toNat))
 (takeP L seq).size).n,
 Value.int IntKind.i64
 (loseM
 (f (0 + (IntKind.i64.wrap ((takeP L seq).mi - (f 0).id)).toNat))
 (takeP L seq).size).sumT,
 Value.int IntKind.i64
 (loseM
 (f (0 + (IntKind.i64.wrap ((takeP L seq).mi - (f 0).id)).toNat))
 (takeP L seq).size).sumR,
 Value.int IntKind.i64
 (loseM
 (f (0 + (IntKind.i64.wrap ((takeP L seq).mi - (f 0).id)).toNat))
 (takeP L seq).size).sumTT,
 Value.int IntKind.i64
 (loseM
 (f (0 + (IntKind.i64.wrap ((takeP L seq).mi - (f 0).id)).toNat))
 (takeP L seq).size).sumTR,
 Value.int IntKind.i64
 (loseM
 (f (0 + (IntKind.i64.wrap ((takeP L seq).mi - (f 0).id)).toNat))
 (takeP L seq).size).sumRR])])))))
 (T.ite
 (loseE (f (0 + (IntKind.i64.wrap ((takeP L seq).mi - (f 0).id)).toNat))
 (takeP L seq).size !=
 0)
 (T.need
 (some
 (AB.cells 36
 [SV.d (Value.int IntKind.u64 (takeP L seq).seq),
 SV.d (Value.int IntKind.i64 (takeP L seq).mi),
 SV.d (Value.int IntKind.i64 (takeP L seq).size),
 SV.d (Value.int IntKind.i64 (takeP L seq).sent)]) =
 some
 (AB.cells 36
 [SV.d (Value.int IntKind.u64 (takeP L seq).seq),
 SV.d (Value.int IntKind.i64 (takeP L seq).mi),
 SV.d (Value.int IntKind.i64 (takeP L seq).size),
 SV.d (Value.int IntKind.i64 (takeP L seq).sent)]))
 (T.ret
 (AV.tup
 [EV.agg
 [SV.d (Value.int IntKind.u64 (takeP L seq).seq),
 SV.d (Value.int IntKind.i64 (takeP L seq).mi),
 SV.d (Value.int IntKind.i64 (takeP L seq).size),
 SV.d (Value.int IntKind.i64 (takeP L seq).sent)],
 EV.s
 (SV.d
 (Value.int IntKind.i64
 (loseE (f (0 + (IntKind.i64.wrap ((takeP L seq).mi - (f 0).id)).toNat))
 (takeP L seq).size)))],
 [AB.cells 95
 [SV.ptr 1 0, SV.d (Value.int IntKind.i64 at'), SV.sl 3 15 0 n 0,
 SV.d (Value.int IntKind.i64 id), SV.d (Value.int IntKind.i64 tmo)],
 AB.cells 86
 [SV.d (Value.int IntKind.i64 (takeL L seq).room),
 SV.d (Value.int IntKind.u64 (takeL L seq).first),
 SV.d (Value.int IntKind.u64 (takeL L seq).next),
 SV.d (Value.int IntKind.i64 (takeL L seq).last), SV.mp 2],
 AB.pm (takeL L seq).es, AB.row 80 15 n (miF f)])))
 (T.need (0 + (IntKind.i64.wrap ((takeP L seq).mi - (f 0).id)).toNat < n)
 (T.ite false
 (T.need (0 ≤ IntKind.i64.wrap (0 + 1) ∧ IntKind.i64.wrap (0 + 1) < (↑1 : Int))
 (T.need
 (1 <
 (chunksOf 4 1
 [Value.int IntKind.u64 (takeP L seq).seq,
 Value.int IntKind.i64 (takeP L seq).mi,
 Value.int IntKind.i64 (takeP L seq).size,
 Value.int IntKind.i64 (takeP L seq).sent]).length)
 T.fail))
 (T.need
 (some
 (AB.cells 36
 [SV.d (Value.int IntKind.u64 (takeP L seq).seq),
 SV.d (Value.int IntKind.i64 (takeP L seq).mi),
 SV.d (Value.int IntKind.i64 (takeP L seq).size),
 SV.d (Value.int IntKind.i64 (takeP L seq).sent)]) =
 some
 (AB.cells 36
 [SV.d (Value.int IntKind.u64 (takeP L seq).seq),
 SV.d (Value.int IntKind.i64 (takeP L seq).mi),
 SV.d (Value.int IntKind.i64 (takeP L seq).size),
 SV.d (Value.int IntKind.i64 (takeP L seq).sent)]))
 (T.ret
 (AV.tup
 [EV.agg
 [SV.d (Value.int IntKind.u64 (takeP L seq).seq),
 SV.d (Value.int IntKind.i64 (takeP L seq).mi),
 SV.d (Value.int IntKind.i64 (takeP L seq).size),
 SV.d (Value.int IntKind.i64 (takeP L seq).sent)],
 EV.s (SV.c (Value.int IntKind.i64 0))],
 [AB.cells 95
 [SV.ptr 1 0, SV.d (Value.int IntKind.i64 at'), SV.sl 3 15 0 n 0,
 SV.d (Value.int IntKind.i64 id), SV.d (Value.int IntKind.i64 tmo)],
 AB.cells 86
 [SV.d (Value.int IntKind.i64 (takeL L seq).room),
 SV.d (Value.int IntKind.u64 (takeL L seq).first),
 SV.d (Value.int IntKind.u64 (takeL L seq).next),
 SV.d (Value.int IntKind.i64 (takeL L seq).last), SV.mp 2],
 AB.pm (takeL L seq).es,
 AB.row 80 15 n
 (spliceG (miF f)
 (0 + (IntKind.i64.wrap ((takeP L seq).mi - (f 0).id)).toNat) 0
 [Value.int IntKind.i64 Mi.zero.id, Value.int IntKind.i64 Mi.zero.frm,
 Value.int IntKind.i64 Mi.zero.to, Value.int IntKind.i64 Mi.zero.sent,
 Value.int IntKind.i64 Mi.zero.acked,
 Value.int IntKind.i64 Mi.zero.lost,
 Value.int IntKind.i64 Mi.zero.packets,
 Value.int IntKind.i64 Mi.zero.hits,
 Value.int IntKind.i64 Mi.zero.drops, Value.int IntKind.i64 Mi.zero.n,
 Value.int IntKind.i64 Mi.zero.sumT,
 Value.int IntKind.i64 Mi.zero.sumR,
 Value.int IntKind.i64 Mi.zero.sumTT,
 Value.int IntKind.i64 Mi.zero.sumTR,
 Value.int IntKind.i64 Mi.zero.sumRR])]))))))).both
 (T.need
 (some
 (AB.cells 36
 [SV.d (Value.int IntKind.u64 (takeP L seq).seq),
 SV.d (Value.int IntKind.i64 (takeP L seq).mi),
 SV.d (Value.int IntKind.i64 (takeP L seq).size),
 SV.d (Value.int IntKind.i64 (takeP L seq).sent)]) =
 some
 (AB.cells 36
 [SV.d (Value.int IntKind.u64 (takeP L seq).seq),
 SV.d (Value.int IntKind.i64 (takeP L seq).mi),
 SV.d (Value.int IntKind.i64 (takeP L seq).size),
 SV.d (Value.int IntKind.i64 (takeP L seq).sent)]))
 (T.need (some (AB.row 80 15 n (miF f)) = some (AB.row 80 15 n (miF f)))
 (T.need (some (AB.cells 110 [SV.fn 85 []]) = some (AB.cells 110 [SV.fn 85 []]))
 (T.ite
 (loseE (f (0 + (IntKind.i64.wrap ((takeP L seq).mi - (f 0).id)).toNat))
 (takeP L seq).size ==
 0)
 (T.need (0 + (IntKind.i64.wrap ((takeP L seq).mi - (f 0).id)).toNat < n)
 (T.ite false
 (T.need (0 ≤ IntKind.i64.wrap (0 + 1) ∧ IntKind.i64.wrap (0 + 1) < (↑1 : Int))
 (T.need
 (1 <
 (chunksOf 4 1
 [Value.int IntKind.u64 (takeP L seq).seq,
 Value.int IntKind.i64 (takeP L seq).mi,
 Value.int IntKind.i64 (takeP L seq).size,
 Value.int IntKind.i64 (takeP L seq).sent]).length)
 T.fail))
 (T.need
 (some
 (AB.cells 36
 [SV.d (Value.int IntKind.u64 (takeP L seq).seq),
 SV.d (Value.int IntKind.i64 (takeP L seq).mi),
 SV.d (Value.int IntKind.i64 (takeP L seq).size),
 SV.d (Value.int IntKind.i64 (takeP L seq).sent)]) =
 some
 (AB.cells 36
 [SV.d (Value.int IntKind.u64 (takeP L seq).seq),
 SV.d (Value.int IntKind.i64 (takeP L seq).mi),
 SV.d (Value.int IntKind.i64 (takeP L seq).size),
 SV.d (Value.int IntKind.i64 (takeP L seq).sent)]))
 (T.ret
 (AV.tup
 [EV.agg
 [SV.d (Value.int IntKind.u64 (takeP L seq).seq),
 SV.d (Value.int IntKind.i64 (takeP L seq).mi),
 SV.d (Value.int IntKind.i64 (takeP L seq).size),
 SV.d (Value.int IntKind.i64 (takeP L seq).sent)],
 EV.s (SV.c (Value.int IntKind.i64 0))],
 [AB.cells 95
 [SV.ptr 1 0, SV.d (Value.int IntKind.i64 at'), SV.sl 3 15 0 n 0,
 SV.d (Value.int IntKind.i64 id), SV.d (Value.int IntKind.i64 tmo)],
 AB.cells 86
 [SV.d (Value.int IntKind.i64 (takeL L seq).room),
 SV.d (Value.int IntKind.u64 (takeL L seq).first),
 SV.d (Value.int IntKind.u64 (takeL L seq).next),
 SV.d (Value.int IntKind.i64 (takeL L seq).last), SV.mp 2],
 AB.pm (takeL L seq).es,
 AB.row 80 15 n
 (spliceG (miF f)
 (0 + (IntKind.i64.wrap ((takeP L seq).mi - (f 0).id)).toNat) 0
 [Value.int IntKind.i64
 (loseM
 (f
 (0 +
 (IntKind.i64.wrap ((takeP L seq).mi - (f 0).id)).toNat))
 (takeP L seq).size).id,
 Value.int IntKind.i64
 (loseM
 (f
 (0 +
 (IntKind.i64.wrap ((takeP L seq).mi - (f 0).id)).toNat))
 (takeP L seq).size).frm,
 Value.int IntKind.i64
 (loseM
 (f
 (0 +
 (IntKind.i64.wrap ((takeP L seq).mi - (f 0).id)).toNat))
 (takeP L seq).size).to,
 Value.int IntKind.i64
 (loseM
 (f
 (0 +
 (IntKind.i64.wrap ((takeP L seq).mi - (f 0).id)).toNat))
 (takeP L seq).size).sent,
 Value.int IntKind.i64
 (loseM
 (f
 (0 +
 (IntKind.i64.wrap ((takeP L seq).mi - (f 0).id)).toNat))
 (takeP L seq).size).acked,
 Value.int IntKind.i64
 (loseM
 (f
 (0 +
 (IntKind.i64.wrap ((takeP L seq).mi - (f 0).id)).toNat))
 (takeP L seq).size).lost,
 Value.int IntKind.i64
 (loseM
 (f
 (0 +
 (IntKind.i64.wrap ((takeP L seq).mi - (f 0).id)).toNat))
 (takeP L seq).size).packets,
 Value.int IntKind.i64
 (loseM
 (f
 (0 +
 (IntKind.i64.wrap ((takeP L seq).mi - (f 0).id)).toNat))
 (takeP L seq).size).hits,
 Value.int IntKind.i64
 (loseM
 (f
 (0 +
 (IntKind.i64.wrap ((takeP L seq).mi - (f 0).id)).toNat))
 (takeP L seq).size).drops,
 Value.int IntKind.i64
 (loseM
 (f
 (0 +
 (IntKind.i64.wrap ((takeP L seq).mi - (f 0).id)).toNat))
 (takeP L seq).size).n,
 Value.int IntKind.i64
 (loseM
 (f
 (0 +
 (IntKind.i64.wrap ((takeP L seq).mi - (f 0).id)).toNat))
 (takeP L seq).size).sumT,
 Value.int IntKind.i64
 (loseM
 (f
 (0 +
 (IntKind.i64.wrap ((takeP L seq).mi - (f 0).id)).toNat))
 (takeP L seq).size).sumR,
 Value.int IntKind.i64
 (loseM
 (f
 (0 +
 (IntKind.i64.wrap ((takeP L seq).mi - (f 0).id)).toNat))
 (takeP L seq).size).sumTT,
 Value.int IntKind.i64
 (loseM
 (f
 (0 +
 (IntKind.i64.wrap ((takeP L seq).mi - (f 0).id)).toNat))
 (takeP L seq).size).sumTR,
 Value.int IntKind.i64
 (loseM
 (f
 (0 +
 (IntKind.i64.wrap ((takeP L seq).mi - (f 0).id)).toNat))
 (takeP L seq).size).sumRR])])))))
 (T.ite
 (loseE (f (0 + (IntKind.i64.wrap ((takeP L seq).mi - (f 0).id)).toNat))
 (takeP L seq).size !=
 0)
 (T.need
 (some
 (AB.cells 36
 [SV.d (Value.int IntKind.u64 (takeP L seq).seq),
 SV.d (Value.int IntKind.i64 (takeP L seq).mi),
 SV.d (Value.int IntKind.i64 (takeP L seq).size),
 SV.d (Value.int IntKind.i64 (takeP L seq).sent)]) =
 some
 (AB.cells 36
 [SV.d (Value.int IntKind.u64 (takeP L seq).seq),
 SV.d (Value.int IntKind.i64 (takeP L seq).mi),
 SV.d (Value.int IntKind.i64 (takeP L seq).size),
 SV.d (Value.int IntKind.i64 (takeP L seq).sent)]))
 (T.ret
 (AV.tup
 [EV.agg
 [SV.d (Value.int IntKind.u64 (takeP L seq).seq),
 SV.d (Value.int IntKind.i64 (takeP L seq).mi),
 SV.d (Value.int IntKind.i64 (takeP L seq).size),
 SV.d (Value.int IntKind.i64 (takeP L seq).sent)],
 EV.s
 (SV.d
 (Value.int IntKind.i64
 (loseE
 (f (0 + (IntKind.i64.wrap ((takeP L seq).mi - (f 0).id)).toNat))
 (takeP L seq).size)))],
 [AB.cells 95
 [SV.ptr 1 0, SV.d (Value.int IntKind.i64 at'), SV.sl 3 15 0 n 0,
 SV.d (Value.int IntKind.i64 id), SV.d (Value.int IntKind.i64 tmo)],
 AB.cells 86
 [SV.d (Value.int IntKind.i64 (takeL L seq).room),
 SV.d (Value.int IntKind.u64 (takeL L seq).first),
 SV.d (Value.int IntKind.u64 (takeL L seq).next),
 SV.d (Value.int IntKind.i64 (takeL L seq).last), SV.mp 2],
 AB.pm (takeL L seq).es, AB.row 80 15 n (miF f)])))
 (T.need (0 + (IntKind.i64.wrap ((takeP L seq).mi - (f 0).id)).toNat < n)
 (T.ite false
 (T.need (0 ≤ IntKind.i64.wrap (0 + 1) ∧ IntKind.i64.wrap (0 + 1) < (↑1 : Int))
 (T.need
 (1 <
 (chunksOf 4 1
 [Value.int IntKind.u64 (takeP L seq).seq,
 Value.int IntKind.i64 (takeP L seq).mi,
 Value.int IntKind.i64 (takeP L seq).size,
 Value.int IntKind.i64 (takeP L seq).sent]).length)
 T.fail))
 (T.need
 (some
 (AB.cells 36
 [SV.d (Value.int IntKind.u64 (takeP L seq).seq),
 SV.d (Value.int IntKind.i64 (takeP L seq).mi),
 SV.d (Value.int IntKind.i64 (takeP L seq).size),
 SV.d (Value.int IntKind.i64 (takeP L seq).sent)]) =
 some
 (AB.cells 36
 [SV.d (Value.int IntKind.u64 (takeP L seq).seq),
 SV.d (Value.int IntKind.i64 (takeP L seq).mi),
 SV.d (Value.int IntKind.i64 (takeP L seq).size),
 SV.d (Value.int IntKind.i64 (takeP L seq).sent)]))
 (T.ret
 (AV.tup
 [EV.agg
 [SV.d (Value.int IntKind.u64 (takeP L seq).seq),
 SV.d (Value.int IntKind.i64 (takeP L seq).mi),
 SV.d (Value.int IntKind.i64 (takeP L seq).size),
 SV.d (Value.int IntKind.i64 (takeP L seq).sent)],
 EV.s (SV.c (Value.int IntKind.i64 0))],
 [AB.cells 95
 [SV.ptr 1 0, SV.d (Value.int IntKind.i64 at'), SV.sl 3 15 0 n 0,
 SV.d (Value.int IntKind.i64 id), SV.d (Value.int IntKind.i64 tmo)],
 AB.cells 86
 [SV.d (Value.int IntKind.i64 (takeL L seq).room),
 SV.d (Value.int IntKind.u64 (takeL L seq).first),
 SV.d (Value.int IntKind.u64 (takeL L seq).next),
 SV.d (Value.int IntKind.i64 (takeL L seq).last), SV.mp 2],
 AB.pm (takeL L seq).es,
 AB.row 80 15 n
 (spliceG (miF f)
 (0 + (IntKind.i64.wrap ((takeP L seq).mi - (f 0).id)).toNat) 0
 [Value.int IntKind.i64 Mi.zero.id,
 Value.int IntKind.i64 Mi.zero.frm,
 Value.int IntKind.i64 Mi.zero.to,
 Value.int IntKind.i64 Mi.zero.sent,
 Value.int IntKind.i64 Mi.zero.acked,
 Value.int IntKind.i64 Mi.zero.lost,
 Value.int IntKind.i64 Mi.zero.packets,
 Value.int IntKind.i64 Mi.zero.hits,
 Value.int IntKind.i64 Mi.zero.drops,
 Value.int IntKind.i64 Mi.zero.n,
 Value.int IntKind.i64 Mi.zero.sumT,
 Value.int IntKind.i64 Mi.zero.sumR,
 Value.int IntKind.i64 Mi.zero.sumTT,
 Value.int IntKind.i64 Mi.zero.sumTR,
 Value.int IntKind.i64 Mi.zero.sumRR])])))))))))))))))))
 (T.need
 (some
 (AB.cells 36
 [SV.d (Value.int IntKind.u64 (takeP L seq).seq), SV.d (Value.int IntKind.i64 (takeP L seq).mi),
 SV.d (Value.int IntKind.i64 (takeP L seq).size),
 SV.d (Value.int IntKind.i64 (takeP L seq).sent)]) =
 some
 (AB.cells 36
 [SV.d (Value.int IntKind.u64 (takeP L seq).seq), SV.d (Value.int IntKind.i64 (takeP L seq).mi),
 SV.d (Value.int IntKind.i64 (takeP L seq).size),
 SV.d (Value.int IntKind.i64 (takeP L seq).sent)]))
 (T.ret
 (AV.tup
 [EV.agg
 [SV.d (Value.int IntKind.u64 (takeP L seq).seq), SV.d (Value.int IntKind.i64 (takeP L seq).mi),
 SV.d (Value.int IntKind.i64 (takeP L seq).size),
 SV.d (Value.int IntKind.i64 (takeP L seq).sent)],
 EV.s (SV.c (Value.int IntKind.i64 0))],
 [AB.cells 95
 [SV.ptr 1 0, SV.d (Value.int IntKind.i64 at'), SV.sl 3 15 0 n 0, SV.d (Value.int IntKind.i64 id),
 SV.d (Value.int IntKind.i64 tmo)],
 AB.cells 86
 [SV.d (Value.int IntKind.i64 (takeL L seq).room),
 SV.d (Value.int IntKind.u64 (takeL L seq).first),
 SV.d (Value.int IntKind.u64 (takeL L seq).next),
 SV.d (Value.int IntKind.i64 (takeL L seq).last), SV.mp 2],
 AB.pm (takeL L seq).es, AB.row 80 15 n (miF f)])))))))) := by kernel_rfl


noncomputable def t37 (L : LSt) (n : Nat) (f : Nat → Mi) (now id tmo : Int) : T (AV × Heap) := callT Try.prog (entL e37) 2 37 [.e (.s (.ptr 0 0))] (bH L n (miF f) now id tmo) fun r H' => .ret (r, H')

theorem t37_eq (L : LSt) (n : Nat) (f : Nat → Mi) (now id tmo : Int) : t37 L n f now id tmo =
 T.ite ((↑n : Int) == 0)
 (T.ret
 (AV.tup
 [EV.agg
 [SV.c (Value.int IntKind.i64 0), SV.c (Value.int IntKind.i64 0), SV.c (Value.int IntKind.i64 0),
 SV.c (Value.int IntKind.i64 0), SV.c (Value.int IntKind.i64 0), SV.c (Value.int IntKind.i64 0),
 SV.c (Value.int IntKind.i64 0), SV.c (Value.int IntKind.i64 0), SV.c (Value.int IntKind.i64 0),
 SV.c (Value.int IntKind.i64 0), SV.c (Value.int IntKind.i64 0), SV.c (Value.int IntKind.i64 0),
 SV.c (Value.int IntKind.i64 0), SV.c (Value.int IntKind.i64 0), SV.c (Value.int IntKind.i64 0)],
 EV.s (SV.c (Value.bool false))],
 [AB.cells 95
 [SV.ptr 1 0, SV.d (Value.int IntKind.i64 now), SV.sl 3 15 0 n 0, SV.d (Value.int IntKind.i64 id),
 SV.d (Value.int IntKind.i64 tmo)],
 AB.cells 86
 [SV.d (Value.int IntKind.i64 L.room), SV.d (Value.int IntKind.u64 L.first),
 SV.d (Value.int IntKind.u64 L.next), SV.d (Value.int IntKind.i64 L.last), SV.mp 2],
 AB.pm L.es, AB.row 80 15 n (miF f)]))
 (T.need ((0 : Int) ≤ 0 ∧ (0 : Int) < (↑n : Int))
 (T.need (0 < n)
 (T.need True
 (T.ite (decide (f 0).DoneP)
 (T.need ((0 : Int) ≤ 0 ∧ (0 : Int) < (↑n : Int))
 (T.need (0 < n)
 (T.need ((0 : Int) ≤ 1 ∧ (1 : Int) ≤ (↑n : Int) ∧ (↑n : Int) ≤ (↑n : Int))
 (T.need (1 + ((↑n : Int).toNat - Int.toNat 1) ≤ n ∧ (↑n : Int).toNat - Int.toNat 1 ≤ most)
 (T.ret
 (AV.tup
 [EV.agg
 [SV.d (Value.int IntKind.i64 (f 0).id), SV.d (Value.int IntKind.i64 (f 0).frm),
 SV.d (Value.int IntKind.i64 (f 0).to), SV.d (Value.int IntKind.i64 (f 0).sent),
 SV.d (Value.int IntKind.i64 (f 0).acked), SV.d (Value.int IntKind.i64 (f 0).lost),
 SV.d (Value.int IntKind.i64 (f 0).packets), SV.d (Value.int IntKind.i64 (f 0).hits),
 SV.d (Value.int IntKind.i64 (f 0).drops), SV.d (Value.int IntKind.i64 (f 0).n),
 SV.d (Value.int IntKind.i64 (f 0).sumT), SV.d (Value.int IntKind.i64 (f 0).sumR),
 SV.d (Value.int IntKind.i64 (f 0).sumTT), SV.d (Value.int IntKind.i64 (f 0).sumTR),
 SV.d (Value.int IntKind.i64 (f 0).sumRR)],
 EV.s (SV.c (Value.bool true))],
 [AB.cells 95
 [SV.ptr 1 0, SV.d (Value.int IntKind.i64 now),
 SV.sl 6 15 0 ((↑n : Int).toNat - Int.toNat 1) 0, SV.d (Value.int IntKind.i64 id),
 SV.d (Value.int IntKind.i64 tmo)],
 AB.cells 86
 [SV.d (Value.int IntKind.i64 L.room), SV.d (Value.int IntKind.u64 L.first),
 SV.d (Value.int IntKind.u64 L.next), SV.d (Value.int IntKind.i64 L.last), SV.mp 2],
 AB.pm L.es, AB.row 80 15 n (miF f),
 AB.cells 80
 [SV.d (Value.int IntKind.i64 (f 0).id), SV.d (Value.int IntKind.i64 (f 0).frm),
 SV.d (Value.int IntKind.i64 (f 0).to), SV.d (Value.int IntKind.i64 (f 0).sent),
 SV.d (Value.int IntKind.i64 (f 0).acked), SV.d (Value.int IntKind.i64 (f 0).lost),
 SV.d (Value.int IntKind.i64 (f 0).packets), SV.d (Value.int IntKind.i64 (f 0).hits),
 SV.d (Value.int IntKind.i64 (f 0).drops), SV.d (Value.int IntKind.i64 (f 0).n),
 SV.d (Value.int IntKind.i64 (f 0).sumT), SV.d (Value.int IntKind.i64 (f 0).sumR),
 SV.d (Value.int IntKind.i64 (f 0).sumTT), SV.d (Value.int IntKind.i64 (f 0).sumTR),
 SV.d (Value.int IntKind.i64 (f 0).sumRR)],
 AB.cells 80
 [SV.d (Value.int IntKind.i64 (f 0).id), SV.d (Value.int IntKind.i64 (f 0).frm),
 SV.d (Value.int IntKind.i64 (f 0).to), SV.d (Value.int IntKind.i64 (f 0).sent),
 SV.d (Value.int IntKind.i64 (f 0).acked), SV.d (Value.int IntKind.i64 (f 0).lost),
 SV.d (Value.int IntKind.i64 (f 0).packets), SV.d (Value.int IntKind.i64 (f 0).hits),
 SV.d (Value.int IntKind.i64 (f 0).drops), SV.d (Value.int IntKind.i64 (f 0).n),
 SV.d (Value.int IntKind.i64 (f 0).sumT), SV.d (Value.int IntKind.i64 (f 0).sumR),
 SV.d (Value.int IntKind.i64 (f 0).sumTT), SV.d (Value.int IntKind.i64 (f 0).sumTR),
 SV.d (Value.int IntKind.i64 (f 0).sumRR)],
 AB.row 80 15 ((↑n : Int).toNat - Int.toNat 1) fun j => miF f (1 + j)]))))))
 (T.ret
 (AV.tup
 [EV.agg
 [SV.c (Value.int IntKind.i64 0), SV.c (Value.int IntKind.i64 0), SV.c (Value.int IntKind.i64 0),
 SV.c (Value.int IntKind.i64 0), SV.c (Value.int IntKind.i64 0), SV.c (Value.int IntKind.i64 0),
 SV.c (Value.int IntKind.i64 0), SV.c (Value.int IntKind.i64 0), SV.c (Value.int IntKind.i64 0),
 SV.c (Value.int IntKind.i64 0), SV.c (Value.int IntKind.i64 0), SV.c (Value.int IntKind.i64 0),
 SV.c (Value.int IntKind.i64 0), SV.c (Value.int IntKind.i64 0), SV.c (Value.int IntKind.i64 0)],
 EV.s (SV.c (Value.bool false))],
 [AB.cells 95
 [SV.ptr 1 0, SV.d (Value.int IntKind.i64 now), SV.sl 3 15 0 n 0, SV.d (Value.int IntKind.i64 id),
 SV.d (Value.int IntKind.i64 tmo)],
 AB.cells 86
 [SV.d (Value.int IntKind.i64 L.room), SV.d (Value.int IntKind.u64 L.first),
 SV.d (Value.int IntKind.u64 L.next), SV.d (Value.int IntKind.i64 L.last), SV.mp 2],
 AB.pm L.es, AB.row 80 15 n (miF f)])))))) := by kernel_rfl


noncomputable def t28 (L : LSt) (n : Nat) (f : Nat → Mi) (now id tmo : Int) : T (AV × Heap) := callT Try.prog (entL e28) 2 28 [.e (.s (.ptr 0 0))] (bH L n (miF f) now id tmo) fun r H' => .ret (r, H')

theorem t28_eq (L : LSt) (n : Nat) (f : Nat → Mi) (now id tmo : Int) : t28 L n f now id tmo =
 T.need (0 + n ≤ n ∧ n ≤ most)
 (T.ret
 (AV.e (EV.s (SV.sl 4 15 0 n 0)),
 [AB.cells 95
 [SV.ptr 1 0, SV.d (Value.int IntKind.i64 now), SV.sl 3 15 0 n 0, SV.d (Value.int IntKind.i64 id),
 SV.d (Value.int IntKind.i64 tmo)],
 AB.cells 86
 [SV.d (Value.int IntKind.i64 L.room), SV.d (Value.int IntKind.u64 L.first),
 SV.d (Value.int IntKind.u64 L.next), SV.d (Value.int IntKind.i64 L.last), SV.mp 2],
 AB.pm L.es, AB.row 80 15 n (miF f), AB.row 80 15 n fun j => miF f (0 + j)])) := by kernel_rfl


end Go.Proofs.Ythckkoledhjmeaa.Ev
