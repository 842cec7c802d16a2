/-
  The abstract evaluator's trees: what is done with accounts, by the program and by the document.
-/
import Derived.Test.YthckkoledhjmeaaBD
namespace Go.Proofs.Ythckkoledhjmeaa.Ev
open Go

def e38 : List (Nat × Ent) := [(38, .body oN 0), (65, .summ sIs), (66, .body oN 0)]
def e57 : List (Nat × Ent) := [(57, .body oN 0), (82, .body oN 0)]
def e59 : List (Nat × Ent) := [(59, .body oN 0), (65, .summ sIs), (82, .body oN 0)]
def e60 : List (Nat × Ent) := [(60, .body oN 0), (65, .summ sIs), (83, .body oN 0)]
def e70 : List (Nat × Ent) := [(70, .body oN 0), (65, .summ sIs), (83, .body oN 0), (90, .body oN 0)]
def e71 : List (Nat × Ent) := [(71, .body oN 0), (65, .summ sIs), (82, .body oN 0), (83, .body oN 0), (90, .body oN 0)]
def e80 : List (Nat × Ent) := [(80, .body oN 0), (91, .summ sIs)]
def e75 : List (Nat × Ent) := [(75, .body oN 0), (40, .body oN 0)]
def e73 : List (Nat × Ent) := [(73, .body oN 0), (91, .summ sIs), (40, .body oN 0)]
def e76 : List (Nat × Ent) := [(76, .body oN 0), (91, .summ sIs), (39, .body oN 0)]
def e79 : List (Nat × Ent) := [(79, .body oN 0), (91, .summ sIs), (39, .body oN 0), (92, .body oN 0)]
def e77 : List (Nat × Ent) := [(77, .body oN 0), (91, .summ sIs), (39, .body oN 0), (40, .body oN 0), (92, .body oN 0)]

noncomputable def t38 (m : Mi) : T (AV × Heap) := callT Try.prog (entL e38) 2 38 [.e (.agg m.cells)] [] fun r H' => .ret (r, H')

theorem t38_eq (m : Mi) : t38 m =
 T.need True
 (T.ite (decide m.Is)
 (T.ite (m.to != -1)
 (T.ite (IntKind.i64.wrap (m.hits + m.drops) == m.packets) (T.ret (AV.e (EV.s (SV.c (Value.bool true))), []))
 (T.ret (AV.e (EV.s (SV.c (Value.bool false))), [])))
 (T.ret (AV.e (EV.s (SV.c (Value.bool false))), [])))
 (T.ret (AV.e (EV.s (SV.c (Value.bool false))), []))) := by kernel_rfl

noncomputable def t80 (m : Mi) : T (AV × Heap) := callT Try.prog (entL e80) 2 80 [.e (.agg m.cells)] [] fun r H' => .ret (r, H')

theorem t80_eq (m : Mi) : t80 m =
 T.need True
 (T.ite (decide m.Is)
 (T.ite (m.to != -1)
 (T.ite (IntKind.i64.wrap (m.hits + m.drops) == m.packets) (T.ret (AV.e (EV.s (SV.c (Value.bool true))), []))
 (T.ret (AV.e (EV.s (SV.c (Value.bool false))), [])))
 (T.ret (AV.e (EV.s (SV.c (Value.bool false))), [])))
 (T.ret (AV.e (EV.s (SV.c (Value.bool false))), []))) := by kernel_rfl

noncomputable def t57 (id at' : Int) : T (AV × Heap) := callT Try.prog (entL e57) 2 57 [.d (.int .i64 id), .d (.int .i64 at')] [] fun r H' => .ret (r, H')

theorem t57_eq (id at' : Int) : t57 id at' =
 T.ite (decide (id < 0))
 (T.ret
 (AV.tup
 [EV.agg
 [SV.c (Value.int IntKind.i64 0), SV.c (Value.int IntKind.i64 0), SV.c (Value.int IntKind.i64 0),
 SV.c (Value.int IntKind.i64 0), SV.c (Value.int IntKind.i64 0), SV.c (Value.int IntKind.i64 0),
 SV.c (Value.int IntKind.i64 0), SV.c (Value.int IntKind.i64 0), SV.c (Value.int IntKind.i64 0),
 SV.c (Value.int IntKind.i64 0), SV.c (Value.int IntKind.i64 0), SV.c (Value.int IntKind.i64 0),
 SV.c (Value.int IntKind.i64 0), SV.c (Value.int IntKind.i64 0), SV.c (Value.int IntKind.i64 0)],
 EV.s (SV.c (Value.int IntKind.i64 1))],
 []))
 (T.ite (decide (at' ≥ 0))
 (T.ite (decide (at' ≤ 1099511627776))
 (T.ret
 (AV.tup
 [EV.agg
 [SV.d (Value.int IntKind.i64 id), SV.d (Value.int IntKind.i64 at'), SV.c (Value.int IntKind.i64 (-1)),
 SV.c (Value.int IntKind.i64 0), SV.c (Value.int IntKind.i64 0), SV.c (Value.int IntKind.i64 0),
 SV.c (Value.int IntKind.i64 0), SV.c (Value.int IntKind.i64 0), SV.c (Value.int IntKind.i64 0),
 SV.c (Value.int IntKind.i64 0), SV.c (Value.int IntKind.i64 0), SV.c (Value.int IntKind.i64 0),
 SV.c (Value.int IntKind.i64 0), SV.c (Value.int IntKind.i64 0), SV.c (Value.int IntKind.i64 0)],
 EV.s (SV.c (Value.int IntKind.i64 0))],
 []))
 (T.ret
 (AV.tup
 [EV.agg
 [SV.c (Value.int IntKind.i64 0), SV.c (Value.int IntKind.i64 0), SV.c (Value.int IntKind.i64 0),
 SV.c (Value.int IntKind.i64 0), SV.c (Value.int IntKind.i64 0), SV.c (Value.int IntKind.i64 0),
 SV.c (Value.int IntKind.i64 0), SV.c (Value.int IntKind.i64 0), SV.c (Value.int IntKind.i64 0),
 SV.c (Value.int IntKind.i64 0), SV.c (Value.int IntKind.i64 0), SV.c (Value.int IntKind.i64 0),
 SV.c (Value.int IntKind.i64 0), SV.c (Value.int IntKind.i64 0), SV.c (Value.int IntKind.i64 0)],
 EV.s (SV.c (Value.int IntKind.i64 1))],
 [])))
 (T.ret
 (AV.tup
 [EV.agg
 [SV.c (Value.int IntKind.i64 0), SV.c (Value.int IntKind.i64 0), SV.c (Value.int IntKind.i64 0),
 SV.c (Value.int IntKind.i64 0), SV.c (Value.int IntKind.i64 0), SV.c (Value.int IntKind.i64 0),
 SV.c (Value.int IntKind.i64 0), SV.c (Value.int IntKind.i64 0), SV.c (Value.int IntKind.i64 0),
 SV.c (Value.int IntKind.i64 0), SV.c (Value.int IntKind.i64 0), SV.c (Value.int IntKind.i64 0),
 SV.c (Value.int IntKind.i64 0), SV.c (Value.int IntKind.i64 0), SV.c (Value.int IntKind.i64 0)],
 EV.s (SV.c (Value.int IntKind.i64 1))],
 []))) := by kernel_rfl

noncomputable def t75 (id at' : Int) : T (AV × Heap) := callT Try.prog (entL e75) 2 75 [.d (.int .i64 id), .d (.int .i64 at')] [] fun r H' => .ret (r, H')

theorem t75_eq (id at' : Int) : t75 id at' =
 T.ite (decide (id < 0))
 (T.ret
 (AV.tup
 [EV.agg
 [SV.c (Value.int IntKind.i64 0), SV.c (Value.int IntKind.i64 0), SV.c (Value.int IntKind.i64 0),
 SV.c (Value.int IntKind.i64 0), SV.c (Value.int IntKind.i64 0), SV.c (Value.int IntKind.i64 0),
 SV.c (Value.int IntKind.i64 0), SV.c (Value.int IntKind.i64 0), SV.c (Value.int IntKind.i64 0),
 SV.c (Value.int IntKind.i64 0), SV.c (Value.int IntKind.i64 0), SV.c (Value.int IntKind.i64 0),
 SV.c (Value.int IntKind.i64 0), SV.c (Value.int IntKind.i64 0), SV.c (Value.int IntKind.i64 0)],
 EV.s (SV.c (Value.int IntKind.i64 1))],
 []))
 (T.ite (decide (at' ≥ 0))
 (T.ite (decide (at' ≤ 1099511627776))
 (T.ret
 (AV.tup
 [EV.agg
 [SV.d (Value.int IntKind.i64 id), SV.d (Value.int IntKind.i64 at'), SV.c (Value.int IntKind.i64 (-1)),
 SV.c (Value.int IntKind.i64 0), SV.c (Value.int IntKind.i64 0), SV.c (Value.int IntKind.i64 0),
 SV.c (Value.int IntKind.i64 0), SV.c (Value.int IntKind.i64 0), SV.c (Value.int IntKind.i64 0),
 SV.c (Value.int IntKind.i64 0), SV.c (Value.int IntKind.i64 0), SV.c (Value.int IntKind.i64 0),
 SV.c (Value.int IntKind.i64 0), SV.c (Value.int IntKind.i64 0), SV.c (Value.int IntKind.i64 0)],
 EV.s (SV.c (Value.int IntKind.i64 0))],
 []))
 (T.ret
 (AV.tup
 [EV.agg
 [SV.c (Value.int IntKind.i64 0), SV.c (Value.int IntKind.i64 0), SV.c (Value.int IntKind.i64 0),
 SV.c (Value.int IntKind.i64 0), SV.c (Value.int IntKind.i64 0), SV.c (Value.int IntKind.i64 0),
 SV.c (Value.int IntKind.i64 0), SV.c (Value.int IntKind.i64 0), SV.c (Value.int IntKind.i64 0),
 SV.c (Value.int IntKind.i64 0), SV.c (Value.int IntKind.i64 0), SV.c (Value.int IntKind.i64 0),
 SV.c (Value.int IntKind.i64 0), SV.c (Value.int IntKind.i64 0), SV.c (Value.int IntKind.i64 0)],
 EV.s (SV.c (Value.int IntKind.i64 1))],
 [])))
 (T.ret
 (AV.tup
 [EV.agg
 [SV.c (Value.int IntKind.i64 0), SV.c (Value.int IntKind.i64 0), SV.c (Value.int IntKind.i64 0),
 SV.c (Value.int IntKind.i64 0), SV.c (Value.int IntKind.i64 0), SV.c (Value.int IntKind.i64 0),
 SV.c (Value.int IntKind.i64 0), SV.c (Value.int IntKind.i64 0), SV.c (Value.int IntKind.i64 0),
 SV.c (Value.int IntKind.i64 0), SV.c (Value.int IntKind.i64 0), SV.c (Value.int IntKind.i64 0),
 SV.c (Value.int IntKind.i64 0), SV.c (Value.int IntKind.i64 0), SV.c (Value.int IntKind.i64 0)],
 EV.s (SV.c (Value.int IntKind.i64 1))],
 []))) := by kernel_rfl

noncomputable def t59 (m : Mi) (at' : Int) : T (AV × Heap) := callT Try.prog (entL e59) 2 59 [.e (.agg m.cells), .d (.int .i64 at')] [] fun r H' => .ret (r, H')

theorem t59_eq (m : Mi) (at' : Int) : t59 m at' =
 T.need True
 (T.ite (decide m.Is)
 (T.ite (m.to != -1)
 (T.ret
 (AV.tup
 [EV.agg
 [SV.c (Value.int IntKind.i64 0), SV.c (Value.int IntKind.i64 0), SV.c (Value.int IntKind.i64 0),
 SV.c (Value.int IntKind.i64 0), SV.c (Value.int IntKind.i64 0), SV.c (Value.int IntKind.i64 0),
 SV.c (Value.int IntKind.i64 0), SV.c (Value.int IntKind.i64 0), SV.c (Value.int IntKind.i64 0),
 SV.c (Value.int IntKind.i64 0), SV.c (Value.int IntKind.i64 0), SV.c (Value.int IntKind.i64 0),
 SV.c (Value.int IntKind.i64 0), SV.c (Value.int IntKind.i64 0), SV.c (Value.int IntKind.i64 0)],
 EV.s (SV.c (Value.int IntKind.i64 15))],
 []))
 (T.ite (decide (at' ≥ 0))
 (T.ite (decide (at' ≤ 1099511627776))
 (T.ite (decide (at' < m.frm))
 (T.ret
 (AV.tup
 [EV.agg
 [SV.c (Value.int IntKind.i64 0), SV.c (Value.int IntKind.i64 0), SV.c (Value.int IntKind.i64 0),
 SV.c (Value.int IntKind.i64 0), SV.c (Value.int IntKind.i64 0), SV.c (Value.int IntKind.i64 0),
 SV.c (Value.int IntKind.i64 0), SV.c (Value.int IntKind.i64 0), SV.c (Value.int IntKind.i64 0),
 SV.c (Value.int IntKind.i64 0), SV.c (Value.int IntKind.i64 0), SV.c (Value.int IntKind.i64 0),
 SV.c (Value.int IntKind.i64 0), SV.c (Value.int IntKind.i64 0), SV.c (Value.int IntKind.i64 0)],
 EV.s (SV.c (Value.int IntKind.i64 10))],
 []))
 (T.ret
 (AV.tup
 [EV.agg
 [SV.d (Value.int IntKind.i64 m.id), SV.d (Value.int IntKind.i64 m.frm),
 SV.d (Value.int IntKind.i64 at'), SV.d (Value.int IntKind.i64 m.sent),
 SV.d (Value.int IntKind.i64 m.acked), SV.d (Value.int IntKind.i64 m.lost),
 SV.d (Value.int IntKind.i64 m.packets), SV.d (Value.int IntKind.i64 m.hits),
 SV.d (Value.int IntKind.i64 m.drops), SV.d (Value.int IntKind.i64 m.n),
 SV.d (Value.int IntKind.i64 m.sumT), SV.d (Value.int IntKind.i64 m.sumR),
 SV.d (Value.int IntKind.i64 m.sumTT), SV.d (Value.int IntKind.i64 m.sumTR),
 SV.d (Value.int IntKind.i64 m.sumRR)],
 EV.s (SV.c (Value.int IntKind.i64 0))],
 [])))
 (T.ret
 (AV.tup
 [EV.agg
 [SV.c (Value.int IntKind.i64 0), SV.c (Value.int IntKind.i64 0), SV.c (Value.int IntKind.i64 0),
 SV.c (Value.int IntKind.i64 0), SV.c (Value.int IntKind.i64 0), SV.c (Value.int IntKind.i64 0),
 SV.c (Value.int IntKind.i64 0), SV.c (Value.int IntKind.i64 0), SV.c (Value.int IntKind.i64 0),
 SV.c (Value.int IntKind.i64 0), SV.c (Value.int IntKind.i64 0), SV.c (Value.int IntKind.i64 0),
 SV.c (Value.int IntKind.i64 0), SV.c (Value.int IntKind.i64 0), SV.c (Value.int IntKind.i64 0)],
 EV.s (SV.c (Value.int IntKind.i64 10))],
 [])))
 (T.ret
 (AV.tup
 [EV.agg
 [SV.c (Value.int IntKind.i64 0), SV.c (Value.int IntKind.i64 0), SV.c (Value.int IntKind.i64 0),
 SV.c (Value.int IntKind.i64 0), SV.c (Value.int IntKind.i64 0), SV.c (Value.int IntKind.i64 0),
 SV.c (Value.int IntKind.i64 0), SV.c (Value.int IntKind.i64 0), SV.c (Value.int IntKind.i64 0),
 SV.c (Value.int IntKind.i64 0), SV.c (Value.int IntKind.i64 0), SV.c (Value.int IntKind.i64 0),
 SV.c (Value.int IntKind.i64 0), SV.c (Value.int IntKind.i64 0), SV.c (Value.int IntKind.i64 0)],
 EV.s (SV.c (Value.int IntKind.i64 10))],
 []))))
 (T.ret
 (AV.tup
 [EV.agg
 [SV.c (Value.int IntKind.i64 0), SV.c (Value.int IntKind.i64 0), SV.c (Value.int IntKind.i64 0),
 SV.c (Value.int IntKind.i64 0), SV.c (Value.int IntKind.i64 0), SV.c (Value.int IntKind.i64 0),
 SV.c (Value.int IntKind.i64 0), SV.c (Value.int IntKind.i64 0), SV.c (Value.int IntKind.i64 0),
 SV.c (Value.int IntKind.i64 0), SV.c (Value.int IntKind.i64 0), SV.c (Value.int IntKind.i64 0),
 SV.c (Value.int IntKind.i64 0), SV.c (Value.int IntKind.i64 0), SV.c (Value.int IntKind.i64 0)],
 EV.s (SV.c (Value.int IntKind.i64 1))],
 []))) := by kernel_rfl

noncomputable def t73 (m : Mi) (at' : Int) : T (AV × Heap) := callT Try.prog (entL e73) 2 73 [.e (.agg m.cells), .d (.int .i64 at')] [] fun r H' => .ret (r, H')

theorem t73_eq (m : Mi) (at' : Int) : t73 m at' =
 T.need True
 (T.ite (decide m.Is)
 (T.ite (m.to != -1)
 (T.ret
 (AV.tup
 [EV.agg
 [SV.c (Value.int IntKind.i64 0), SV.c (Value.int IntKind.i64 0), SV.c (Value.int IntKind.i64 0),
 SV.c (Value.int IntKind.i64 0), SV.c (Value.int IntKind.i64 0), SV.c (Value.int IntKind.i64 0),
 SV.c (Value.int IntKind.i64 0), SV.c (Value.int IntKind.i64 0), SV.c (Value.int IntKind.i64 0),
 SV.c (Value.int IntKind.i64 0), SV.c (Value.int IntKind.i64 0), SV.c (Value.int IntKind.i64 0),
 SV.c (Value.int IntKind.i64 0), SV.c (Value.int IntKind.i64 0), SV.c (Value.int IntKind.i64 0)],
 EV.s (SV.c (Value.int IntKind.i64 15))],
 []))
 (T.ite (decide (at' ≥ 0))
 (T.ite (decide (at' ≤ 1099511627776))
 (T.ite (decide (at' < m.frm))
 (T.ret
 (AV.tup
 [EV.agg
 [SV.c (Value.int IntKind.i64 0), SV.c (Value.int IntKind.i64 0), SV.c (Value.int IntKind.i64 0),
 SV.c (Value.int IntKind.i64 0), SV.c (Value.int IntKind.i64 0), SV.c (Value.int IntKind.i64 0),
 SV.c (Value.int IntKind.i64 0), SV.c (Value.int IntKind.i64 0), SV.c (Value.int IntKind.i64 0),
 SV.c (Value.int IntKind.i64 0), SV.c (Value.int IntKind.i64 0), SV.c (Value.int IntKind.i64 0),
 SV.c (Value.int IntKind.i64 0), SV.c (Value.int IntKind.i64 0), SV.c (Value.int IntKind.i64 0)],
 EV.s (SV.c (Value.int IntKind.i64 10))],
 []))
 (T.ret
 (AV.tup
 [EV.agg
 [SV.d (Value.int IntKind.i64 m.id), SV.d (Value.int IntKind.i64 m.frm),
 SV.d (Value.int IntKind.i64 at'), SV.d (Value.int IntKind.i64 m.sent),
 SV.d (Value.int IntKind.i64 m.acked), SV.d (Value.int IntKind.i64 m.lost),
 SV.d (Value.int IntKind.i64 m.packets), SV.d (Value.int IntKind.i64 m.hits),
 SV.d (Value.int IntKind.i64 m.drops), SV.d (Value.int IntKind.i64 m.n),
 SV.d (Value.int IntKind.i64 m.sumT), SV.d (Value.int IntKind.i64 m.sumR),
 SV.d (Value.int IntKind.i64 m.sumTT), SV.d (Value.int IntKind.i64 m.sumTR),
 SV.d (Value.int IntKind.i64 m.sumRR)],
 EV.s (SV.c (Value.int IntKind.i64 0))],
 [])))
 (T.ret
 (AV.tup
 [EV.agg
 [SV.c (Value.int IntKind.i64 0), SV.c (Value.int IntKind.i64 0), SV.c (Value.int IntKind.i64 0),
 SV.c (Value.int IntKind.i64 0), SV.c (Value.int IntKind.i64 0), SV.c (Value.int IntKind.i64 0),
 SV.c (Value.int IntKind.i64 0), SV.c (Value.int IntKind.i64 0), SV.c (Value.int IntKind.i64 0),
 SV.c (Value.int IntKind.i64 0), SV.c (Value.int IntKind.i64 0), SV.c (Value.int IntKind.i64 0),
 SV.c (Value.int IntKind.i64 0), SV.c (Value.int IntKind.i64 0), SV.c (Value.int IntKind.i64 0)],
 EV.s (SV.c (Value.int IntKind.i64 10))],
 [])))
 (T.ret
 (AV.tup
 [EV.agg
 [SV.c (Value.int IntKind.i64 0), SV.c (Value.int IntKind.i64 0), SV.c (Value.int IntKind.i64 0),
 SV.c (Value.int IntKind.i64 0), SV.c (Value.int IntKind.i64 0), SV.c (Value.int IntKind.i64 0),
 SV.c (Value.int IntKind.i64 0), SV.c (Value.int IntKind.i64 0), SV.c (Value.int IntKind.i64 0),
 SV.c (Value.int IntKind.i64 0), SV.c (Value.int IntKind.i64 0), SV.c (Value.int IntKind.i64 0),
 SV.c (Value.int IntKind.i64 0), SV.c (Value.int IntKind.i64 0), SV.c (Value.int IntKind.i64 0)],
 EV.s (SV.c (Value.int IntKind.i64 10))],
 []))))
 (T.ret
 (AV.tup
 [EV.agg
 [SV.c (Value.int IntKind.i64 0), SV.c (Value.int IntKind.i64 0), SV.c (Value.int IntKind.i64 0),
 SV.c (Value.int IntKind.i64 0), SV.c (Value.int IntKind.i64 0), SV.c (Value.int IntKind.i64 0),
 SV.c (Value.int IntKind.i64 0), SV.c (Value.int IntKind.i64 0), SV.c (Value.int IntKind.i64 0),
 SV.c (Value.int IntKind.i64 0), SV.c (Value.int IntKind.i64 0), SV.c (Value.int IntKind.i64 0),
 SV.c (Value.int IntKind.i64 0), SV.c (Value.int IntKind.i64 0), SV.c (Value.int IntKind.i64 0)],
 EV.s (SV.c (Value.int IntKind.i64 1))],
 []))) := by kernel_rfl

noncomputable def t60 (m : Mi) (n : Int) : T (AV × Heap) := callT Try.prog (entL e60) 2 60 [.e (.agg m.cells), .d (.int .i64 n)] [] fun r H' => .ret (r, H')

theorem t60_eq (m : Mi) (n : Int) : t60 m n =
 T.need True
 (T.ite (decide m.Is)
 (T.ite (decide (n ≥ 1))
 (T.ite (decide (n ≤ 9000))
 (T.ite (m.to != -1)
 (T.ret
 (AV.tup
 [EV.agg
 [SV.c (Value.int IntKind.i64 0), SV.c (Value.int IntKind.i64 0), SV.c (Value.int IntKind.i64 0),
 SV.c (Value.int IntKind.i64 0), SV.c (Value.int IntKind.i64 0), SV.c (Value.int IntKind.i64 0),
 SV.c (Value.int IntKind.i64 0), SV.c (Value.int IntKind.i64 0), SV.c (Value.int IntKind.i64 0),
 SV.c (Value.int IntKind.i64 0), SV.c (Value.int IntKind.i64 0), SV.c (Value.int IntKind.i64 0),
 SV.c (Value.int IntKind.i64 0), SV.c (Value.int IntKind.i64 0), SV.c (Value.int IntKind.i64 0)],
 EV.s (SV.c (Value.int IntKind.i64 15))],
 []))
 (T.ite (m.packets == 1048576)
 (T.ret
 (AV.tup
 [EV.agg
 [SV.c (Value.int IntKind.i64 0), SV.c (Value.int IntKind.i64 0), SV.c (Value.int IntKind.i64 0),
 SV.c (Value.int IntKind.i64 0), SV.c (Value.int IntKind.i64 0), SV.c (Value.int IntKind.i64 0),
 SV.c (Value.int IntKind.i64 0), SV.c (Value.int IntKind.i64 0), SV.c (Value.int IntKind.i64 0),
 SV.c (Value.int IntKind.i64 0), SV.c (Value.int IntKind.i64 0), SV.c (Value.int IntKind.i64 0),
 SV.c (Value.int IntKind.i64 0), SV.c (Value.int IntKind.i64 0), SV.c (Value.int IntKind.i64 0)],
 EV.s (SV.c (Value.int IntKind.i64 2))],
 []))
 (T.ret
 (AV.tup
 [EV.agg
 [SV.d (Value.int IntKind.i64 m.id), SV.d (Value.int IntKind.i64 m.frm),
 SV.d (Value.int IntKind.i64 m.to), SV.d (Value.int IntKind.i64 (IntKind.i64.wrap (m.sent + n))),
 SV.d (Value.int IntKind.i64 m.acked), SV.d (Value.int IntKind.i64 m.lost),
 SV.d (Value.int IntKind.i64 (IntKind.i64.wrap (m.packets + 1))),
 SV.d (Value.int IntKind.i64 m.hits), SV.d (Value.int IntKind.i64 m.drops),
 SV.d (Value.int IntKind.i64 m.n), SV.d (Value.int IntKind.i64 m.sumT),
 SV.d (Value.int IntKind.i64 m.sumR), SV.d (Value.int IntKind.i64 m.sumTT),
 SV.d (Value.int IntKind.i64 m.sumTR), SV.d (Value.int IntKind.i64 m.sumRR)],
 EV.s (SV.c (Value.int IntKind.i64 0))],
 []))))
 (T.ret
 (AV.tup
 [EV.agg
 [SV.c (Value.int IntKind.i64 0), SV.c (Value.int IntKind.i64 0), SV.c (Value.int IntKind.i64 0),
 SV.c (Value.int IntKind.i64 0), SV.c (Value.int IntKind.i64 0), SV.c (Value.int IntKind.i64 0),
 SV.c (Value.int IntKind.i64 0), SV.c (Value.int IntKind.i64 0), SV.c (Value.int IntKind.i64 0),
 SV.c (Value.int IntKind.i64 0), SV.c (Value.int IntKind.i64 0), SV.c (Value.int IntKind.i64 0),
 SV.c (Value.int IntKind.i64 0), SV.c (Value.int IntKind.i64 0), SV.c (Value.int IntKind.i64 0)],
 EV.s (SV.c (Value.int IntKind.i64 9))],
 [])))
 (T.ret
 (AV.tup
 [EV.agg
 [SV.c (Value.int IntKind.i64 0), SV.c (Value.int IntKind.i64 0), SV.c (Value.int IntKind.i64 0),
 SV.c (Value.int IntKind.i64 0), SV.c (Value.int IntKind.i64 0), SV.c (Value.int IntKind.i64 0),
 SV.c (Value.int IntKind.i64 0), SV.c (Value.int IntKind.i64 0), SV.c (Value.int IntKind.i64 0),
 SV.c (Value.int IntKind.i64 0), SV.c (Value.int IntKind.i64 0), SV.c (Value.int IntKind.i64 0),
 SV.c (Value.int IntKind.i64 0), SV.c (Value.int IntKind.i64 0), SV.c (Value.int IntKind.i64 0)],
 EV.s (SV.c (Value.int IntKind.i64 9))],
 [])))
 (T.ret
 (AV.tup
 [EV.agg
 [SV.c (Value.int IntKind.i64 0), SV.c (Value.int IntKind.i64 0), SV.c (Value.int IntKind.i64 0),
 SV.c (Value.int IntKind.i64 0), SV.c (Value.int IntKind.i64 0), SV.c (Value.int IntKind.i64 0),
 SV.c (Value.int IntKind.i64 0), SV.c (Value.int IntKind.i64 0), SV.c (Value.int IntKind.i64 0),
 SV.c (Value.int IntKind.i64 0), SV.c (Value.int IntKind.i64 0), SV.c (Value.int IntKind.i64 0),
 SV.c (Value.int IntKind.i64 0), SV.c (Value.int IntKind.i64 0), SV.c (Value.int IntKind.i64 0)],
 EV.s (SV.c (Value.int IntKind.i64 1))],
 []))) := by kernel_rfl

noncomputable def t76 (m : Mi) (n : Int) : T (AV × Heap) := callT Try.prog (entL e76) 2 76 [.e (.agg m.cells), .d (.int .i64 n)] [] fun r H' => .ret (r, H')

theorem t76_eq (m : Mi) (n : Int) : t76 m n =
 T.need True
 (T.ite (decide m.Is)
 (T.ite (decide (n ≥ 1))
 (T.ite (decide (n ≤ 9000))
 (T.ite (m.to != -1)
 (T.ret
 (AV.tup
 [EV.agg
 [SV.c (Value.int IntKind.i64 0), SV.c (Value.int IntKind.i64 0), SV.c (Value.int IntKind.i64 0),
 SV.c (Value.int IntKind.i64 0), SV.c (Value.int IntKind.i64 0), SV.c (Value.int IntKind.i64 0),
 SV.c (Value.int IntKind.i64 0), SV.c (Value.int IntKind.i64 0), SV.c (Value.int IntKind.i64 0),
 SV.c (Value.int IntKind.i64 0), SV.c (Value.int IntKind.i64 0), SV.c (Value.int IntKind.i64 0),
 SV.c (Value.int IntKind.i64 0), SV.c (Value.int IntKind.i64 0), SV.c (Value.int IntKind.i64 0)],
 EV.s (SV.c (Value.int IntKind.i64 15))],
 []))
 (T.ite (m.packets == 1048576)
 (T.ret
 (AV.tup
 [EV.agg
 [SV.c (Value.int IntKind.i64 0), SV.c (Value.int IntKind.i64 0), SV.c (Value.int IntKind.i64 0),
 SV.c (Value.int IntKind.i64 0), SV.c (Value.int IntKind.i64 0), SV.c (Value.int IntKind.i64 0),
 SV.c (Value.int IntKind.i64 0), SV.c (Value.int IntKind.i64 0), SV.c (Value.int IntKind.i64 0),
 SV.c (Value.int IntKind.i64 0), SV.c (Value.int IntKind.i64 0), SV.c (Value.int IntKind.i64 0),
 SV.c (Value.int IntKind.i64 0), SV.c (Value.int IntKind.i64 0), SV.c (Value.int IntKind.i64 0)],
 EV.s (SV.c (Value.int IntKind.i64 2))],
 []))
 (T.ret
 (AV.tup
 [EV.agg
 [SV.d (Value.int IntKind.i64 m.id), SV.d (Value.int IntKind.i64 m.frm),
 SV.d (Value.int IntKind.i64 m.to), SV.d (Value.int IntKind.i64 (IntKind.i64.wrap (m.sent + n))),
 SV.d (Value.int IntKind.i64 m.acked), SV.d (Value.int IntKind.i64 m.lost),
 SV.d (Value.int IntKind.i64 (IntKind.i64.wrap (m.packets + 1))),
 SV.d (Value.int IntKind.i64 m.hits), SV.d (Value.int IntKind.i64 m.drops),
 SV.d (Value.int IntKind.i64 m.n), SV.d (Value.int IntKind.i64 m.sumT),
 SV.d (Value.int IntKind.i64 m.sumR), SV.d (Value.int IntKind.i64 m.sumTT),
 SV.d (Value.int IntKind.i64 m.sumTR), SV.d (Value.int IntKind.i64 m.sumRR)],
 EV.s (SV.c (Value.int IntKind.i64 0))],
 []))))
 (T.ret
 (AV.tup
 [EV.agg
 [SV.c (Value.int IntKind.i64 0), SV.c (Value.int IntKind.i64 0), SV.c (Value.int IntKind.i64 0),
 SV.c (Value.int IntKind.i64 0), SV.c (Value.int IntKind.i64 0), SV.c (Value.int IntKind.i64 0),
 SV.c (Value.int IntKind.i64 0), SV.c (Value.int IntKind.i64 0), SV.c (Value.int IntKind.i64 0),
 SV.c (Value.int IntKind.i64 0), SV.c (Value.int IntKind.i64 0), SV.c (Value.int IntKind.i64 0),
 SV.c (Value.int IntKind.i64 0), SV.c (Value.int IntKind.i64 0), SV.c (Value.int IntKind.i64 0)],
 EV.s (SV.c (Value.int IntKind.i64 9))],
 [])))
 (T.ret
 (AV.tup
 [EV.agg
 [SV.c (Value.int IntKind.i64 0), SV.c (Value.int IntKind.i64 0), SV.c (Value.int IntKind.i64 0),
 SV.c (Value.int IntKind.i64 0), SV.c (Value.int IntKind.i64 0), SV.c (Value.int IntKind.i64 0),
 SV.c (Value.int IntKind.i64 0), SV.c (Value.int IntKind.i64 0), SV.c (Value.int IntKind.i64 0),
 SV.c (Value.int IntKind.i64 0), SV.c (Value.int IntKind.i64 0), SV.c (Value.int IntKind.i64 0),
 SV.c (Value.int IntKind.i64 0), SV.c (Value.int IntKind.i64 0), SV.c (Value.int IntKind.i64 0)],
 EV.s (SV.c (Value.int IntKind.i64 9))],
 [])))
 (T.ret
 (AV.tup
 [EV.agg
 [SV.c (Value.int IntKind.i64 0), SV.c (Value.int IntKind.i64 0), SV.c (Value.int IntKind.i64 0),
 SV.c (Value.int IntKind.i64 0), SV.c (Value.int IntKind.i64 0), SV.c (Value.int IntKind.i64 0),
 SV.c (Value.int IntKind.i64 0), SV.c (Value.int IntKind.i64 0), SV.c (Value.int IntKind.i64 0),
 SV.c (Value.int IntKind.i64 0), SV.c (Value.int IntKind.i64 0), SV.c (Value.int IntKind.i64 0),
 SV.c (Value.int IntKind.i64 0), SV.c (Value.int IntKind.i64 0), SV.c (Value.int IntKind.i64 0)],
 EV.s (SV.c (Value.int IntKind.i64 1))],
 []))) := by kernel_rfl

noncomputable def t70 (m : Mi) (n : Int) : T (AV × Heap) := callT Try.prog (entL e70) 3 70 [.e (.agg m.cells), .d (.int .i64 n)] [] fun r H' => .ret (r, H')

theorem t70_eq (m : Mi) (n : Int) : t70 m n =
 T.need True
 (T.ite (decide m.Is)
 (T.ite (decide (n ≥ 1))
 (T.ite (decide (n ≤ 9000))
 (T.need True
 (T.ite
 (decide
 { id := m.id, frm := m.frm, to := m.to, sent := m.sent, acked := m.acked, lost := IntKind.i64.wrap (m.lost + n), packets := m.packets, hits := m.hits, drops := IntKind.i64.wrap (m.drops + 1), n := m.n, sumT := m.sumT, sumR := m.sumR, sumTT := m.sumTT, sumTR := m.sumTR, sumRR := m.sumRR : Mi }.Is)
 (T.ret
 (AV.tup
 [EV.agg
 [SV.d (Value.int IntKind.i64 m.id), SV.d (Value.int IntKind.i64 m.frm),
 SV.d (Value.int IntKind.i64 m.to), SV.d (Value.int IntKind.i64 m.sent),
 SV.d (Value.int IntKind.i64 m.acked),
 SV.d (Value.int IntKind.i64 (IntKind.i64.wrap (m.lost + n))),
 SV.d (Value.int IntKind.i64 m.packets), SV.d (Value.int IntKind.i64 m.hits),
 SV.d (Value.int IntKind.i64 (IntKind.i64.wrap (m.drops + 1))), SV.d (Value.int IntKind.i64 m.n),
 SV.d (Value.int IntKind.i64 m.sumT), SV.d (Value.int IntKind.i64 m.sumR),
 SV.d (Value.int IntKind.i64 m.sumTT), SV.d (Value.int IntKind.i64 m.sumTR),
 SV.d (Value.int IntKind.i64 m.sumRR)],
 EV.s (SV.c (Value.int IntKind.i64 0))],
 []))
 (T.ret
 (AV.tup
 [EV.agg
 [SV.c (Value.int IntKind.i64 0), SV.c (Value.int IntKind.i64 0), SV.c (Value.int IntKind.i64 0),
 SV.c (Value.int IntKind.i64 0), SV.c (Value.int IntKind.i64 0), SV.c (Value.int IntKind.i64 0),
 SV.c (Value.int IntKind.i64 0), SV.c (Value.int IntKind.i64 0), SV.c (Value.int IntKind.i64 0),
 SV.c (Value.int IntKind.i64 0), SV.c (Value.int IntKind.i64 0), SV.c (Value.int IntKind.i64 0),
 SV.c (Value.int IntKind.i64 0), SV.c (Value.int IntKind.i64 0), SV.c (Value.int IntKind.i64 0)],
 EV.s (SV.c (Value.int IntKind.i64 6))],
 []))))
 (T.ret
 (AV.tup
 [EV.agg
 [SV.c (Value.int IntKind.i64 0), SV.c (Value.int IntKind.i64 0), SV.c (Value.int IntKind.i64 0),
 SV.c (Value.int IntKind.i64 0), SV.c (Value.int IntKind.i64 0), SV.c (Value.int IntKind.i64 0),
 SV.c (Value.int IntKind.i64 0), SV.c (Value.int IntKind.i64 0), SV.c (Value.int IntKind.i64 0),
 SV.c (Value.int IntKind.i64 0), SV.c (Value.int IntKind.i64 0), SV.c (Value.int IntKind.i64 0),
 SV.c (Value.int IntKind.i64 0), SV.c (Value.int IntKind.i64 0), SV.c (Value.int IntKind.i64 0)],
 EV.s (SV.c (Value.int IntKind.i64 9))],
 [])))
 (T.ret
 (AV.tup
 [EV.agg
 [SV.c (Value.int IntKind.i64 0), SV.c (Value.int IntKind.i64 0), SV.c (Value.int IntKind.i64 0),
 SV.c (Value.int IntKind.i64 0), SV.c (Value.int IntKind.i64 0), SV.c (Value.int IntKind.i64 0),
 SV.c (Value.int IntKind.i64 0), SV.c (Value.int IntKind.i64 0), SV.c (Value.int IntKind.i64 0),
 SV.c (Value.int IntKind.i64 0), SV.c (Value.int IntKind.i64 0), SV.c (Value.int IntKind.i64 0),
 SV.c (Value.int IntKind.i64 0), SV.c (Value.int IntKind.i64 0), SV.c (Value.int IntKind.i64 0)],
 EV.s (SV.c (Value.int IntKind.i64 9))],
 [])))
 (T.ret
 (AV.tup
 [EV.agg
 [SV.c (Value.int IntKind.i64 0), SV.c (Value.int IntKind.i64 0), SV.c (Value.int IntKind.i64 0),
 SV.c (Value.int IntKind.i64 0), SV.c (Value.int IntKind.i64 0), SV.c (Value.int IntKind.i64 0),
 SV.c (Value.int IntKind.i64 0), SV.c (Value.int IntKind.i64 0), SV.c (Value.int IntKind.i64 0),
 SV.c (Value.int IntKind.i64 0), SV.c (Value.int IntKind.i64 0), SV.c (Value.int IntKind.i64 0),
 SV.c (Value.int IntKind.i64 0), SV.c (Value.int IntKind.i64 0), SV.c (Value.int IntKind.i64 0)],
 EV.s (SV.c (Value.int IntKind.i64 1))],
 []))) := by kernel_rfl

noncomputable def t79 (m : Mi) (n : Int) : T (AV × Heap) := callT Try.prog (entL e79) 3 79 [.e (.agg m.cells), .d (.int .i64 n)] [] fun r H' => .ret (r, H')

theorem t79_eq (m : Mi) (n : Int) : t79 m n =
 T.need True
 (T.ite (decide m.Is)
 (T.ite (decide (n ≥ 1))
 (T.ite (decide (n ≤ 9000))
 (T.need True
 (T.ite
 (decide
 { id := m.id, frm := m.frm, to := m.to, sent := m.sent, acked := m.acked, lost := IntKind.i64.wrap (m.lost + n), packets := m.packets, hits := m.hits, drops := IntKind.i64.wrap (m.drops + 1), n := m.n, sumT := m.sumT, sumR := m.sumR, sumTT := m.sumTT, sumTR := m.sumTR, sumRR := m.sumRR : Mi }.Is)
 (T.ret
 (AV.tup
 [EV.agg
 [SV.d (Value.int IntKind.i64 m.id), SV.d (Value.int IntKind.i64 m.frm),
 SV.d (Value.int IntKind.i64 m.to), SV.d (Value.int IntKind.i64 m.sent),
 SV.d (Value.int IntKind.i64 m.acked),
 SV.d (Value.int IntKind.i64 (IntKind.i64.wrap (m.lost + n))),
 SV.d (Value.int IntKind.i64 m.packets), SV.d (Value.int IntKind.i64 m.hits),
 SV.d (Value.int IntKind.i64 (IntKind.i64.wrap (m.drops + 1))), SV.d (Value.int IntKind.i64 m.n),
 SV.d (Value.int IntKind.i64 m.sumT), SV.d (Value.int IntKind.i64 m.sumR),
 SV.d (Value.int IntKind.i64 m.sumTT), SV.d (Value.int IntKind.i64 m.sumTR),
 SV.d (Value.int IntKind.i64 m.sumRR)],
 EV.s (SV.c (Value.int IntKind.i64 0))],
 []))
 (T.ret
 (AV.tup
 [EV.agg
 [SV.c (Value.int IntKind.i64 0), SV.c (Value.int IntKind.i64 0), SV.c (Value.int IntKind.i64 0),
 SV.c (Value.int IntKind.i64 0), SV.c (Value.int IntKind.i64 0), SV.c (Value.int IntKind.i64 0),
 SV.c (Value.int IntKind.i64 0), SV.c (Value.int IntKind.i64 0), SV.c (Value.int IntKind.i64 0),
 SV.c (Value.int IntKind.i64 0), SV.c (Value.int IntKind.i64 0), SV.c (Value.int IntKind.i64 0),
 SV.c (Value.int IntKind.i64 0), SV.c (Value.int IntKind.i64 0), SV.c (Value.int IntKind.i64 0)],
 EV.s (SV.c (Value.int IntKind.i64 6))],
 []))))
 (T.ret
 (AV.tup
 [EV.agg
 [SV.c (Value.int IntKind.i64 0), SV.c (Value.int IntKind.i64 0), SV.c (Value.int IntKind.i64 0),
 SV.c (Value.int IntKind.i64 0), SV.c (Value.int IntKind.i64 0), SV.c (Value.int IntKind.i64 0),
 SV.c (Value.int IntKind.i64 0), SV.c (Value.int IntKind.i64 0), SV.c (Value.int IntKind.i64 0),
 SV.c (Value.int IntKind.i64 0), SV.c (Value.int IntKind.i64 0), SV.c (Value.int IntKind.i64 0),
 SV.c (Value.int IntKind.i64 0), SV.c (Value.int IntKind.i64 0), SV.c (Value.int IntKind.i64 0)],
 EV.s (SV.c (Value.int IntKind.i64 9))],
 [])))
 (T.ret
 (AV.tup
 [EV.agg
 [SV.c (Value.int IntKind.i64 0), SV.c (Value.int IntKind.i64 0), SV.c (Value.int IntKind.i64 0),
 SV.c (Value.int IntKind.i64 0), SV.c (Value.int IntKind.i64 0), SV.c (Value.int IntKind.i64 0),
 SV.c (Value.int IntKind.i64 0), SV.c (Value.int IntKind.i64 0), SV.c (Value.int IntKind.i64 0),
 SV.c (Value.int IntKind.i64 0), SV.c (Value.int IntKind.i64 0), SV.c (Value.int IntKind.i64 0),
 SV.c (Value.int IntKind.i64 0), SV.c (Value.int IntKind.i64 0), SV.c (Value.int IntKind.i64 0)],
 EV.s (SV.c (Value.int IntKind.i64 9))],
 [])))
 (T.ret
 (AV.tup
 [EV.agg
 [SV.c (Value.int IntKind.i64 0), SV.c (Value.int IntKind.i64 0), SV.c (Value.int IntKind.i64 0),
 SV.c (Value.int IntKind.i64 0), SV.c (Value.int IntKind.i64 0), SV.c (Value.int IntKind.i64 0),
 SV.c (Value.int IntKind.i64 0), SV.c (Value.int IntKind.i64 0), SV.c (Value.int IntKind.i64 0),
 SV.c (Value.int IntKind.i64 0), SV.c (Value.int IntKind.i64 0), SV.c (Value.int IntKind.i64 0),
 SV.c (Value.int IntKind.i64 0), SV.c (Value.int IntKind.i64 0), SV.c (Value.int IntKind.i64 0)],
 EV.s (SV.c (Value.int IntKind.i64 1))],
 []))) := by kernel_rfl

noncomputable def t71 (m : Mi) (n sent at' : Int) : T (AV × Heap) := callT Try.prog (entL e71) 3 71 [.e (.agg m.cells), .d (.int .i64 n), .d (.int .i64 sent), .d (.int .i64 at')] [] fun r H' => .ret (r, H')

theorem t71_eq (m : Mi) (n sent at' : Int) : t71 m n sent at' =
 T.need True
 (T.ite (decide m.Is)
 (T.ite (decide (n ≥ 1))
 (T.ite (decide (n ≤ 9000))
 (T.ite (decide (sent ≥ 0))
 (T.ite (decide (sent ≤ 1099511627776))
 (T.ite (decide (at' ≥ 0))
 (T.ite (decide (at' ≤ 1099511627776))
 (T.ite (decide (at' < sent))
 (T.ret
 (AV.tup
 [EV.agg
 [SV.c (Value.int IntKind.i64 0), SV.c (Value.int IntKind.i64 0),
 SV.c (Value.int IntKind.i64 0), SV.c (Value.int IntKind.i64 0),
 SV.c (Value.int IntKind.i64 0), SV.c (Value.int IntKind.i64 0),
 SV.c (Value.int IntKind.i64 0), SV.c (Value.int IntKind.i64 0),
 SV.c (Value.int IntKind.i64 0), SV.c (Value.int IntKind.i64 0),
 SV.c (Value.int IntKind.i64 0), SV.c (Value.int IntKind.i64 0),
 SV.c (Value.int IntKind.i64 0), SV.c (Value.int IntKind.i64 0),
 SV.c (Value.int IntKind.i64 0)],
 EV.s (SV.c (Value.int IntKind.i64 10))],
 []))
 (T.ite (decide (m.n < 1024))
 (T.ite (decide (IntKind.i64.wrap (sent - m.frm) ≥ 0))
 (T.ite
 (decide
 ((if true = true then
 if IntKind.i64.wrap (at' - sent) > IntKind.i64.wrap (sent - m.frm) then
 IntKind.i64.wrap (at' - sent)
 else IntKind.i64.wrap (sent - m.frm)
 else
 if IntKind.i64.wrap (at' - sent) < IntKind.i64.wrap (sent - m.frm) then
 IntKind.i64.wrap (at' - sent)
 else IntKind.i64.wrap (sent - m.frm)) ≤
 60000000))
 (T.need True
 (T.ite
 (decide
 { id := m.id, frm := m.frm, to := m.to, sent := m.sent, acked := IntKind.i64.wrap (m.acked + n), lost := m.lost, packets := m.packets, hits := IntKind.i64.wrap (m.hits + 1), drops := m.drops, n := IntKind.i64.wrap (m.n + 1), sumT := IntKind.i64.wrap (m.sumT + IntKind.i64.wrap (sent - m.frm)), sumR := IntKind.i64.wrap (m.sumR + IntKind.i64.wrap (at' - sent)), sumTT := IntKind.i64.wrap (m.sumTT + IntKind.i64.wrap (IntKind.i64.wrap (sent - m.frm) * IntKind.i64.wrap (sent - m.frm))), sumTR := IntKind.i64.wrap (m.sumTR + IntKind.i64.wrap (IntKind.i64.wrap (sent - m.frm) * IntKind.i64.wrap (at' - sent))), sumRR := IntKind.i64.wrap (m.sumRR + IntKind.i64.wrap (IntKind.i64.wrap (at' - sent) * IntKind.i64.wrap (at' - sent))) : Mi }.Is)
 (T.ret
 (AV.tup
 [EV.agg
 [SV.d (Value.int IntKind.i64 m.id), SV.d (Value.int IntKind.i64 m.frm),
 SV.d (Value.int IntKind.i64 m.to), SV.d (Value.int IntKind.i64 m.sent),
 SV.d (Value.int IntKind.i64 (IntKind.i64.wrap (m.acked + n))),
 SV.d (Value.int IntKind.i64 m.lost), SV.d (Value.int IntKind.i64 m.packets),
 SV.d (Value.int IntKind.i64 (IntKind.i64.wrap (m.hits + 1))),
 SV.d (Value.int IntKind.i64 m.drops),
 SV.d (Value.int IntKind.i64 (IntKind.i64.wrap (m.n + 1))),
 SV.d
 (Value.int IntKind.i64
 (IntKind.i64.wrap (m.sumT + IntKind.i64.wrap (sent - m.frm)))),
 SV.d
 (Value.int IntKind.i64
 (IntKind.i64.wrap (m.sumR + IntKind.i64.wrap (at' - sent)))),
 SV.d
 (Value.int IntKind.i64
 (IntKind.i64.wrap
 (m.sumTT +
 IntKind.i64.wrap
 (IntKind.i64.wrap (sent - m.frm) *
 IntKind.i64.wrap (sent - m.frm))))),
 SV.d
 (Value.int IntKind.i64
 (IntKind.i64.wrap
 (m.sumTR +
 IntKind.i64.wrap
 (IntKind.i64.wrap (sent - m.frm) * IntKind.i64.wrap (at' - sent))))),
 SV.d
 (Value.int IntKind.i64
 (IntKind.i64.wrap
 (m.sumRR +
 IntKind.i64.wrap
 (IntKind.i64.wrap (at' - sent) * IntKind.i64.wrap (at' - sent)))))],
 EV.s (SV.c (Value.int IntKind.i64 0))],
 []))
 (T.ret
 (AV.tup
 [EV.agg
 [SV.c (Value.int IntKind.i64 0), SV.c (Value.int IntKind.i64 0),
 SV.c (Value.int IntKind.i64 0), SV.c (Value.int IntKind.i64 0),
 SV.c (Value.int IntKind.i64 0), SV.c (Value.int IntKind.i64 0),
 SV.c (Value.int IntKind.i64 0), SV.c (Value.int IntKind.i64 0),
 SV.c (Value.int IntKind.i64 0), SV.c (Value.int IntKind.i64 0),
 SV.c (Value.int IntKind.i64 0), SV.c (Value.int IntKind.i64 0),
 SV.c (Value.int IntKind.i64 0), SV.c (Value.int IntKind.i64 0),
 SV.c (Value.int IntKind.i64 0)],
 EV.s (SV.c (Value.int IntKind.i64 6))],
 []))))
 (T.need True
 (T.ite
 (decide
 { id := m.id, frm := m.frm, to := m.to, sent := m.sent, acked := IntKind.i64.wrap (m.acked + n), lost := m.lost, packets := m.packets, hits := IntKind.i64.wrap (m.hits + 1), drops := m.drops, n := m.n, sumT := m.sumT, sumR := m.sumR, sumTT := m.sumTT, sumTR := m.sumTR, sumRR := m.sumRR : Mi }.Is)
 (T.ret
 (AV.tup
 [EV.agg
 [SV.d (Value.int IntKind.i64 m.id), SV.d (Value.int IntKind.i64 m.frm),
 SV.d (Value.int IntKind.i64 m.to), SV.d (Value.int IntKind.i64 m.sent),
 SV.d (Value.int IntKind.i64 (IntKind.i64.wrap (m.acked + n))),
 SV.d (Value.int IntKind.i64 m.lost), SV.d (Value.int IntKind.i64 m.packets),
 SV.d (Value.int IntKind.i64 (IntKind.i64.wrap (m.hits + 1))),
 SV.d (Value.int IntKind.i64 m.drops), SV.d (Value.int IntKind.i64 m.n),
 SV.d (Value.int IntKind.i64 m.sumT), SV.d (Value.int IntKind.i64 m.sumR),
 SV.d (Value.int IntKind.i64 m.sumTT), SV.d (Value.int IntKind.i64 m.sumTR),
 SV.d (Value.int IntKind.i64 m.sumRR)],
 EV.s (SV.c (Value.int IntKind.i64 0))],
 []))
 (T.ret
 (AV.tup
 [EV.agg
 [SV.c (Value.int IntKind.i64 0), SV.c (Value.int IntKind.i64 0),
 SV.c (Value.int IntKind.i64 0), SV.c (Value.int IntKind.i64 0),
 SV.c (Value.int IntKind.i64 0), SV.c (Value.int IntKind.i64 0),
 SV.c (Value.int IntKind.i64 0), SV.c (Value.int IntKind.i64 0),
 SV.c (Value.int IntKind.i64 0), SV.c (Value.int IntKind.i64 0),
 SV.c (Value.int IntKind.i64 0), SV.c (Value.int IntKind.i64 0),
 SV.c (Value.int IntKind.i64 0), SV.c (Value.int IntKind.i64 0),
 SV.c (Value.int IntKind.i64 0)],
 EV.s (SV.c (Value.int IntKind.i64 6))],
 [])))))
 (T.need True
 (T.ite
 (decide
 { id := m.id, frm := m.frm, to := m.to, sent := m.sent, acked := IntKind.i64.wrap (m.acked + n), lost := m.lost, packets := m.packets, hits := IntKind.i64.wrap (m.hits + 1), drops := m.drops, n := m.n, sumT := m.sumT, sumR := m.sumR, sumTT := m.sumTT, sumTR := m.sumTR, sumRR := m.sumRR : Mi }.Is)
 (T.ret
 (AV.tup
 [EV.agg
 [SV.d (Value.int IntKind.i64 m.id), SV.d (Value.int IntKind.i64 m.frm),
 SV.d (Value.int IntKind.i64 m.to), SV.d (Value.int IntKind.i64 m.sent),
 SV.d (Value.int IntKind.i64 (IntKind.i64.wrap (m.acked + n))),
 SV.d (Value.int IntKind.i64 m.lost), SV.d (Value.int IntKind.i64 m.packets),
 SV.d (Value.int IntKind.i64 (IntKind.i64.wrap (m.hits + 1))),
 SV.d (Value.int IntKind.i64 m.drops), SV.d (Value.int IntKind.i64 m.n),
 SV.d (Value.int IntKind.i64 m.sumT), SV.d (Value.int IntKind.i64 m.sumR),
 SV.d (Value.int IntKind.i64 m.sumTT), SV.d (Value.int IntKind.i64 m.sumTR),
 SV.d (Value.int IntKind.i64 m.sumRR)],
 EV.s (SV.c (Value.int IntKind.i64 0))],
 []))
 (T.ret
 (AV.tup
 [EV.agg
 [SV.c (Value.int IntKind.i64 0), SV.c (Value.int IntKind.i64 0),
 SV.c (Value.int IntKind.i64 0), SV.c (Value.int IntKind.i64 0),
 SV.c (Value.int IntKind.i64 0), SV.c (Value.int IntKind.i64 0),
 SV.c (Value.int IntKind.i64 0), SV.c (Value.int IntKind.i64 0),
 SV.c (Value.int IntKind.i64 0), SV.c (Value.int IntKind.i64 0),
 SV.c (Value.int IntKind.i64 0), SV.c (Value.int IntKind.i64 0),
 SV.c (Value.int IntKind.i64 0), SV.c (Value.int IntKind.i64 0),
 SV.c (Value.int IntKind.i64 0)],
 EV.s (SV.c (Value.int IntKind.i64 6))],
 [])))))
 (T.need True
 (T.ite
 (decide
 { id := m.id, frm := m.frm, to := m.to, sent := m.sent, acked := IntKind.i64.wrap (m.acked + n), lost := m.lost, packets := m.packets, hits := IntKind.i64.wrap (m.hits + 1), drops := m.drops, n := m.n, sumT := m.sumT, sumR := m.sumR, sumTT := m.sumTT, sumTR := m.sumTR, sumRR := m.sumRR : Mi }.Is)
 (T.ret
 (AV.tup
 [EV.agg
 [SV.d (Value.int IntKind.i64 m.id), SV.d (Value.int IntKind.i64 m.frm),
 SV.d (Value.int IntKind.i64 m.to), SV.d (Value.int IntKind.i64 m.sent),
 SV.d (Value.int IntKind.i64 (IntKind.i64.wrap (m.acked + n))),
 SV.d (Value.int IntKind.i64 m.lost), SV.d (Value.int IntKind.i64 m.packets),
 SV.d (Value.int IntKind.i64 (IntKind.i64.wrap (m.hits + 1))),
 SV.d (Value.int IntKind.i64 m.drops), SV.d (Value.int IntKind.i64 m.n),
 SV.d (Value.int IntKind.i64 m.sumT), SV.d (Value.int IntKind.i64 m.sumR),
 SV.d (Value.int IntKind.i64 m.sumTT), SV.d (Value.int IntKind.i64 m.sumTR),
 SV.d (Value.int IntKind.i64 m.sumRR)],
 EV.s (SV.c (Value.int IntKind.i64 0))],
 []))
 (T.ret
 (AV.tup
 [EV.agg
 [SV.c (Value.int IntKind.i64 0), SV.c (Value.int IntKind.i64 0),
 SV.c (Value.int IntKind.i64 0), SV.c (Value.int IntKind.i64 0),
 SV.c (Value.int IntKind.i64 0), SV.c (Value.int IntKind.i64 0),
 SV.c (Value.int IntKind.i64 0), SV.c (Value.int IntKind.i64 0),
 SV.c (Value.int IntKind.i64 0), SV.c (Value.int IntKind.i64 0),
 SV.c (Value.int IntKind.i64 0), SV.c (Value.int IntKind.i64 0),
 SV.c (Value.int IntKind.i64 0), SV.c (Value.int IntKind.i64 0),
 SV.c (Value.int IntKind.i64 0)],
 EV.s (SV.c (Value.int IntKind.i64 6))],
 []))))))
 (T.ret
 (AV.tup
 [EV.agg
 [SV.c (Value.int IntKind.i64 0), SV.c (Value.int IntKind.i64 0),
 SV.c (Value.int IntKind.i64 0), SV.c (Value.int IntKind.i64 0),
 SV.c (Value.int IntKind.i64 0), SV.c (Value.int IntKind.i64 0),
 SV.c (Value.int IntKind.i64 0), SV.c (Value.int IntKind.i64 0),
 SV.c (Value.int IntKind.i64 0), SV.c (Value.int IntKind.i64 0),
 SV.c (Value.int IntKind.i64 0), SV.c (Value.int IntKind.i64 0),
 SV.c (Value.int IntKind.i64 0), SV.c (Value.int IntKind.i64 0),
 SV.c (Value.int IntKind.i64 0)],
 EV.s (SV.c (Value.int IntKind.i64 10))],
 [])))
 (T.ret
 (AV.tup
 [EV.agg
 [SV.c (Value.int IntKind.i64 0), SV.c (Value.int IntKind.i64 0), SV.c (Value.int IntKind.i64 0),
 SV.c (Value.int IntKind.i64 0), SV.c (Value.int IntKind.i64 0),
 SV.c (Value.int IntKind.i64 0), SV.c (Value.int IntKind.i64 0),
 SV.c (Value.int IntKind.i64 0), SV.c (Value.int IntKind.i64 0),
 SV.c (Value.int IntKind.i64 0), SV.c (Value.int IntKind.i64 0),
 SV.c (Value.int IntKind.i64 0), SV.c (Value.int IntKind.i64 0),
 SV.c (Value.int IntKind.i64 0), SV.c (Value.int IntKind.i64 0)],
 EV.s (SV.c (Value.int IntKind.i64 10))],
 [])))
 (T.ret
 (AV.tup
 [EV.agg
 [SV.c (Value.int IntKind.i64 0), SV.c (Value.int IntKind.i64 0), SV.c (Value.int IntKind.i64 0),
 SV.c (Value.int IntKind.i64 0), SV.c (Value.int IntKind.i64 0), SV.c (Value.int IntKind.i64 0),
 SV.c (Value.int IntKind.i64 0), SV.c (Value.int IntKind.i64 0), SV.c (Value.int IntKind.i64 0),
 SV.c (Value.int IntKind.i64 0), SV.c (Value.int IntKind.i64 0), SV.c (Value.int IntKind.i64 0),
 SV.c (Value.int IntKind.i64 0), SV.c (Value.int IntKind.i64 0), SV.c (Value.int IntKind.i64 0)],
 EV.s (SV.c (Value.int IntKind.i64 10))],
 [])))
 (T.ret
 (AV.tup
 [EV.agg
 [SV.c (Value.int IntKind.i64 0), SV.c (Value.int IntKind.i64 0), SV.c (Value.int IntKind.i64 0),
 SV.c (Value.int IntKind.i64 0), SV.c (Value.int IntKind.i64 0), SV.c (Value.int IntKind.i64 0),
 SV.c (Value.int IntKind.i64 0), SV.c (Value.int IntKind.i64 0), SV.c (Value.int IntKind.i64 0),
 SV.c (Value.int IntKind.i64 0), SV.c (Value.int IntKind.i64 0), SV.c (Value.int IntKind.i64 0),
 SV.c (Value.int IntKind.i64 0), SV.c (Value.int IntKind.i64 0), SV.c (Value.int IntKind.i64 0)],
 EV.s (SV.c (Value.int IntKind.i64 10))],
 [])))
 (T.ret
 (AV.tup
 [EV.agg
 [SV.c (Value.int IntKind.i64 0), SV.c (Value.int IntKind.i64 0), SV.c (Value.int IntKind.i64 0),
 SV.c (Value.int IntKind.i64 0), SV.c (Value.int IntKind.i64 0), SV.c (Value.int IntKind.i64 0),
 SV.c (Value.int IntKind.i64 0), SV.c (Value.int IntKind.i64 0), SV.c (Value.int IntKind.i64 0),
 SV.c (Value.int IntKind.i64 0), SV.c (Value.int IntKind.i64 0), SV.c (Value.int IntKind.i64 0),
 SV.c (Value.int IntKind.i64 0), SV.c (Value.int IntKind.i64 0), SV.c (Value.int IntKind.i64 0)],
 EV.s (SV.c (Value.int IntKind.i64 9))],
 [])))
 (T.ret
 (AV.tup
 [EV.agg
 [SV.c (Value.int IntKind.i64 0), SV.c (Value.int IntKind.i64 0), SV.c (Value.int IntKind.i64 0),
 SV.c (Value.int IntKind.i64 0), SV.c (Value.int IntKind.i64 0), SV.c (Value.int IntKind.i64 0),
 SV.c (Value.int IntKind.i64 0), SV.c (Value.int IntKind.i64 0), SV.c (Value.int IntKind.i64 0),
 SV.c (Value.int IntKind.i64 0), SV.c (Value.int IntKind.i64 0), SV.c (Value.int IntKind.i64 0),
 SV.c (Value.int IntKind.i64 0), SV.c (Value.int IntKind.i64 0), SV.c (Value.int IntKind.i64 0)],
 EV.s (SV.c (Value.int IntKind.i64 9))],
 [])))
 (T.ret
 (AV.tup
 [EV.agg
 [SV.c (Value.int IntKind.i64 0), SV.c (Value.int IntKind.i64 0), SV.c (Value.int IntKind.i64 0),
 SV.c (Value.int IntKind.i64 0), SV.c (Value.int IntKind.i64 0), SV.c (Value.int IntKind.i64 0),
 SV.c (Value.int IntKind.i64 0), SV.c (Value.int IntKind.i64 0), SV.c (Value.int IntKind.i64 0),
 SV.c (Value.int IntKind.i64 0), SV.c (Value.int IntKind.i64 0), SV.c (Value.int IntKind.i64 0),
 SV.c (Value.int IntKind.i64 0), SV.c (Value.int IntKind.i64 0), SV.c (Value.int IntKind.i64 0)],
 EV.s (SV.c (Value.int IntKind.i64 1))],
 []))) := by kernel_rfl

noncomputable def t77 (m : Mi) (n sent at' : Int) : T (AV × Heap) := callT Try.prog (entL e77) 3 77 [.e (.agg m.cells), .d (.int .i64 n), .d (.int .i64 sent), .d (.int .i64 at')] [] fun r H' => .ret (r, H')

theorem t77_eq (m : Mi) (n sent at' : Int) : t77 m n sent at' =
 T.need True
 (T.ite (decide m.Is)
 (T.ite (decide (n ≥ 1))
 (T.ite (decide (n ≤ 9000))
 (T.ite (decide (sent ≥ 0))
 (T.ite (decide (sent ≤ 1099511627776))
 (T.ite (decide (at' ≥ 0))
 (T.ite (decide (at' ≤ 1099511627776))
 (T.ite (decide (at' < sent))
 (T.ret
 (AV.tup
 [EV.agg
 [SV.c (Value.int IntKind.i64 0), SV.c (Value.int IntKind.i64 0),
 SV.c (Value.int IntKind.i64 0), SV.c (Value.int IntKind.i64 0),
 SV.c (Value.int IntKind.i64 0), SV.c (Value.int IntKind.i64 0),
 SV.c (Value.int IntKind.i64 0), SV.c (Value.int IntKind.i64 0),
 SV.c (Value.int IntKind.i64 0), SV.c (Value.int IntKind.i64 0),
 SV.c (Value.int IntKind.i64 0), SV.c (Value.int IntKind.i64 0),
 SV.c (Value.int IntKind.i64 0), SV.c (Value.int IntKind.i64 0),
 SV.c (Value.int IntKind.i64 0)],
 EV.s (SV.c (Value.int IntKind.i64 10))],
 []))
 (T.ite (decide (m.n < 1024))
 (T.ite (decide (IntKind.i64.wrap (sent - m.frm) ≥ 0))
 (T.ite (decide (IntKind.i64.wrap (sent - m.frm) ≤ 60000000))
 (T.ite (decide (IntKind.i64.wrap (at' - sent) ≤ 60000000))
 (T.need True
 (T.ite
 (decide
 { id := m.id, frm := m.frm, to := m.to, sent := m.sent, acked := IntKind.i64.wrap (m.acked + n), lost := m.lost, packets := m.packets, hits := IntKind.i64.wrap (m.hits + 1), drops := m.drops, n := IntKind.i64.wrap (m.n + 1), sumT := IntKind.i64.wrap (m.sumT + IntKind.i64.wrap (sent - m.frm)), sumR := IntKind.i64.wrap (m.sumR + IntKind.i64.wrap (at' - sent)), sumTT := IntKind.i64.wrap (m.sumTT + IntKind.i64.wrap (IntKind.i64.wrap (sent - m.frm) * IntKind.i64.wrap (sent - m.frm))), sumTR := IntKind.i64.wrap (m.sumTR + IntKind.i64.wrap (IntKind.i64.wrap (sent - m.frm) * IntKind.i64.wrap (at' - sent))), sumRR := IntKind.i64.wrap (m.sumRR + IntKind.i64.wrap (IntKind.i64.wrap (at' - sent) * IntKind.i64.wrap (at' - sent))) : Mi }.Is)
 (T.ret
 (AV.tup
 [EV.agg
 [SV.d (Value.int IntKind.i64 m.id), SV.d (Value.int IntKind.i64 m.frm),
 SV.d (Value.int IntKind.i64 m.to), SV.d (Value.int IntKind.i64 m.sent),
 SV.d (Value.int IntKind.i64 (IntKind.i64.wrap (m.acked + n))),
 SV.d (Value.int IntKind.i64 m.lost), SV.d (Value.int IntKind.i64 m.packets),
 SV.d (Value.int IntKind.i64 (IntKind.i64.wrap (m.hits + 1))),
 SV.d (Value.int IntKind.i64 m.drops),
 SV.d (Value.int IntKind.i64 (IntKind.i64.wrap (m.n + 1))),
 SV.d
 (Value.int IntKind.i64
 (IntKind.i64.wrap (m.sumT + IntKind.i64.wrap (sent - m.frm)))),
 SV.d
 (Value.int IntKind.i64
 (IntKind.i64.wrap (m.sumR + IntKind.i64.wrap (at' - sent)))),
 SV.d
 (Value.int IntKind.i64
 (IntKind.i64.wrap
 (m.sumTT +
 IntKind.i64.wrap
 (IntKind.i64.wrap (sent - m.frm) *
 IntKind.i64.wrap (sent - m.frm))))),
 SV.d
 (Value.int IntKind.i64
 (IntKind.i64.wrap
 (m.sumTR +
 IntKind.i64.wrap
 (IntKind.i64.wrap (sent - m.frm) *
 IntKind.i64.wrap (at' - sent))))),
 SV.d
 (Value.int IntKind.i64
 (IntKind.i64.wrap
 (m.sumRR +
 IntKind.i64.wrap
 (IntKind.i64.wrap (at' - sent) * IntKind.i64.wrap (at' - sent)))))],
 EV.s (SV.c (Value.int IntKind.i64 0))],
 []))
 (T.ret
 (AV.tup
 [EV.agg
 [SV.c (Value.int IntKind.i64 0), SV.c (Value.int IntKind.i64 0),
 SV.c (Value.int IntKind.i64 0), SV.c (Value.int IntKind.i64 0),
 SV.c (Value.int IntKind.i64 0), SV.c (Value.int IntKind.i64 0),
 SV.c (Value.int IntKind.i64 0), SV.c (Value.int IntKind.i64 0),
 SV.c (Value.int IntKind.i64 0), SV.c (Value.int IntKind.i64 0),
 SV.c (Value.int IntKind.i64 0), SV.c (Value.int IntKind.i64 0),
 SV.c (Value.int IntKind.i64 0), SV.c (Value.int IntKind.i64 0),
 SV.c (Value.int IntKind.i64 0)],
 EV.s (SV.c (Value.int IntKind.i64 6))],
 []))))
 (T.need True
 (T.ite
 (decide
 { id := m.id, frm := m.frm, to := m.to, sent := m.sent, acked := IntKind.i64.wrap (m.acked + n), lost := m.lost, packets := m.packets, hits := IntKind.i64.wrap (m.hits + 1), drops := m.drops, n := m.n, sumT := m.sumT, sumR := m.sumR, sumTT := m.sumTT, sumTR := m.sumTR, sumRR := m.sumRR : Mi }.Is)
 (T.ret
 (AV.tup
 [EV.agg
 [SV.d (Value.int IntKind.i64 m.id), SV.d (Value.int IntKind.i64 m.frm),
 SV.d (Value.int IntKind.i64 m.to), SV.d (Value.int IntKind.i64 m.sent),
 SV.d (Value.int IntKind.i64 (IntKind.i64.wrap (m.acked + n))),
 SV.d (Value.int IntKind.i64 m.lost), SV.d (Value.int IntKind.i64 m.packets),
 SV.d (Value.int IntKind.i64 (IntKind.i64.wrap (m.hits + 1))),
 SV.d (Value.int IntKind.i64 m.drops), SV.d (Value.int IntKind.i64 m.n),
 SV.d (Value.int IntKind.i64 m.sumT), SV.d (Value.int IntKind.i64 m.sumR),
 SV.d (Value.int IntKind.i64 m.sumTT), SV.d (Value.int IntKind.i64 m.sumTR),
 SV.d (Value.int IntKind.i64 m.sumRR)],
 EV.s (SV.c (Value.int IntKind.i64 0))],
 []))
 (T.ret
 (AV.tup
 [EV.agg
 [SV.c (Value.int IntKind.i64 0), SV.c (Value.int IntKind.i64 0),
 SV.c (Value.int IntKind.i64 0), SV.c (Value.int IntKind.i64 0),
 SV.c (Value.int IntKind.i64 0), SV.c (Value.int IntKind.i64 0),
 SV.c (Value.int IntKind.i64 0), SV.c (Value.int IntKind.i64 0),
 SV.c (Value.int IntKind.i64 0), SV.c (Value.int IntKind.i64 0),
 SV.c (Value.int IntKind.i64 0), SV.c (Value.int IntKind.i64 0),
 SV.c (Value.int IntKind.i64 0), SV.c (Value.int IntKind.i64 0),
 SV.c (Value.int IntKind.i64 0)],
 EV.s (SV.c (Value.int IntKind.i64 6))],
 [])))))
 (T.need True
 (T.ite
 (decide
 { id := m.id, frm := m.frm, to := m.to, sent := m.sent, acked := IntKind.i64.wrap (m.acked + n), lost := m.lost, packets := m.packets, hits := IntKind.i64.wrap (m.hits + 1), drops := m.drops, n := m.n, sumT := m.sumT, sumR := m.sumR, sumTT := m.sumTT, sumTR := m.sumTR, sumRR := m.sumRR : Mi }.Is)
 (T.ret
 (AV.tup
 [EV.agg
 [SV.d (Value.int IntKind.i64 m.id), SV.d (Value.int IntKind.i64 m.frm),
 SV.d (Value.int IntKind.i64 m.to), SV.d (Value.int IntKind.i64 m.sent),
 SV.d (Value.int IntKind.i64 (IntKind.i64.wrap (m.acked + n))),
 SV.d (Value.int IntKind.i64 m.lost), SV.d (Value.int IntKind.i64 m.packets),
 SV.d (Value.int IntKind.i64 (IntKind.i64.wrap (m.hits + 1))),
 SV.d (Value.int IntKind.i64 m.drops), SV.d (Value.int IntKind.i64 m.n),
 SV.d (Value.int IntKind.i64 m.sumT), SV.d (Value.int IntKind.i64 m.sumR),
 SV.d (Value.int IntKind.i64 m.sumTT), SV.d (Value.int IntKind.i64 m.sumTR),
 SV.d (Value.int IntKind.i64 m.sumRR)],
 EV.s (SV.c (Value.int IntKind.i64 0))],
 []))
 (T.ret
 (AV.tup
 [EV.agg
 [SV.c (Value.int IntKind.i64 0), SV.c (Value.int IntKind.i64 0),
 SV.c (Value.int IntKind.i64 0), SV.c (Value.int IntKind.i64 0),
 SV.c (Value.int IntKind.i64 0), SV.c (Value.int IntKind.i64 0),
 SV.c (Value.int IntKind.i64 0), SV.c (Value.int IntKind.i64 0),
 SV.c (Value.int IntKind.i64 0), SV.c (Value.int IntKind.i64 0),
 SV.c (Value.int IntKind.i64 0), SV.c (Value.int IntKind.i64 0),
 SV.c (Value.int IntKind.i64 0), SV.c (Value.int IntKind.i64 0),
 SV.c (Value.int IntKind.i64 0)],
 EV.s (SV.c (Value.int IntKind.i64 6))],
 [])))))
 (T.need True
 (T.ite
 (decide
 { id := m.id, frm := m.frm, to := m.to, sent := m.sent, acked := IntKind.i64.wrap (m.acked + n), lost := m.lost, packets := m.packets, hits := IntKind.i64.wrap (m.hits + 1), drops := m.drops, n := m.n, sumT := m.sumT, sumR := m.sumR, sumTT := m.sumTT, sumTR := m.sumTR, sumRR := m.sumRR : Mi }.Is)
 (T.ret
 (AV.tup
 [EV.agg
 [SV.d (Value.int IntKind.i64 m.id), SV.d (Value.int IntKind.i64 m.frm),
 SV.d (Value.int IntKind.i64 m.to), SV.d (Value.int IntKind.i64 m.sent),
 SV.d (Value.int IntKind.i64 (IntKind.i64.wrap (m.acked + n))),
 SV.d (Value.int IntKind.i64 m.lost), SV.d (Value.int IntKind.i64 m.packets),
 SV.d (Value.int IntKind.i64 (IntKind.i64.wrap (m.hits + 1))),
 SV.d (Value.int IntKind.i64 m.drops), SV.d (Value.int IntKind.i64 m.n),
 SV.d (Value.int IntKind.i64 m.sumT), SV.d (Value.int IntKind.i64 m.sumR),
 SV.d (Value.int IntKind.i64 m.sumTT), SV.d (Value.int IntKind.i64 m.sumTR),
 SV.d (Value.int IntKind.i64 m.sumRR)],
 EV.s (SV.c (Value.int IntKind.i64 0))],
 []))
 (T.ret
 (AV.tup
 [EV.agg
 [SV.c (Value.int IntKind.i64 0), SV.c (Value.int IntKind.i64 0),
 SV.c (Value.int IntKind.i64 0), SV.c (Value.int IntKind.i64 0),
 SV.c (Value.int IntKind.i64 0), SV.c (Value.int IntKind.i64 0),
 SV.c (Value.int IntKind.i64 0), SV.c (Value.int IntKind.i64 0),
 SV.c (Value.int IntKind.i64 0), SV.c (Value.int IntKind.i64 0),
 SV.c (Value.int IntKind.i64 0), SV.c (Value.int IntKind.i64 0),
 SV.c (Value.int IntKind.i64 0), SV.c (Value.int IntKind.i64 0),
 SV.c (Value.int IntKind.i64 0)],
 EV.s (SV.c (Value.int IntKind.i64 6))],
 [])))))
 (T.need True
 (T.ite
 (decide
 { id := m.id, frm := m.frm, to := m.to, sent := m.sent, acked := IntKind.i64.wrap (m.acked + n), lost := m.lost, packets := m.packets, hits := IntKind.i64.wrap (m.hits + 1), drops := m.drops, n := m.n, sumT := m.sumT, sumR := m.sumR, sumTT := m.sumTT, sumTR := m.sumTR, sumRR := m.sumRR : Mi }.Is)
 (T.ret
 (AV.tup
 [EV.agg
 [SV.d (Value.int IntKind.i64 m.id), SV.d (Value.int IntKind.i64 m.frm),
 SV.d (Value.int IntKind.i64 m.to), SV.d (Value.int IntKind.i64 m.sent),
 SV.d (Value.int IntKind.i64 (IntKind.i64.wrap (m.acked + n))),
 SV.d (Value.int IntKind.i64 m.lost), SV.d (Value.int IntKind.i64 m.packets),
 SV.d (Value.int IntKind.i64 (IntKind.i64.wrap (m.hits + 1))),
 SV.d (Value.int IntKind.i64 m.drops), SV.d (Value.int IntKind.i64 m.n),
 SV.d (Value.int IntKind.i64 m.sumT), SV.d (Value.int IntKind.i64 m.sumR),
 SV.d (Value.int IntKind.i64 m.sumTT), SV.d (Value.int IntKind.i64 m.sumTR),
 SV.d (Value.int IntKind.i64 m.sumRR)],
 EV.s (SV.c (Value.int IntKind.i64 0))],
 []))
 (T.ret
 (AV.tup
 [EV.agg
 [SV.c (Value.int IntKind.i64 0), SV.c (Value.int IntKind.i64 0),
 SV.c (Value.int IntKind.i64 0), SV.c (Value.int IntKind.i64 0),
 SV.c (Value.int IntKind.i64 0), SV.c (Value.int IntKind.i64 0),
 SV.c (Value.int IntKind.i64 0), SV.c (Value.int IntKind.i64 0),
 SV.c (Value.int IntKind.i64 0), SV.c (Value.int IntKind.i64 0),
 SV.c (Value.int IntKind.i64 0), SV.c (Value.int IntKind.i64 0),
 SV.c (Value.int IntKind.i64 0), SV.c (Value.int IntKind.i64 0),
 SV.c (Value.int IntKind.i64 0)],
 EV.s (SV.c (Value.int IntKind.i64 6))],
 []))))))
 (T.ret
 (AV.tup
 [EV.agg
 [SV.c (Value.int IntKind.i64 0), SV.c (Value.int IntKind.i64 0),
 SV.c (Value.int IntKind.i64 0), SV.c (Value.int IntKind.i64 0),
 SV.c (Value.int IntKind.i64 0), SV.c (Value.int IntKind.i64 0),
 SV.c (Value.int IntKind.i64 0), SV.c (Value.int IntKind.i64 0),
 SV.c (Value.int IntKind.i64 0), SV.c (Value.int IntKind.i64 0),
 SV.c (Value.int IntKind.i64 0), SV.c (Value.int IntKind.i64 0),
 SV.c (Value.int IntKind.i64 0), SV.c (Value.int IntKind.i64 0),
 SV.c (Value.int IntKind.i64 0)],
 EV.s (SV.c (Value.int IntKind.i64 10))],
 [])))
 (T.ret
 (AV.tup
 [EV.agg
 [SV.c (Value.int IntKind.i64 0), SV.c (Value.int IntKind.i64 0), SV.c (Value.int IntKind.i64 0),
 SV.c (Value.int IntKind.i64 0), SV.c (Value.int IntKind.i64 0),
 SV.c (Value.int IntKind.i64 0), SV.c (Value.int IntKind.i64 0),
 SV.c (Value.int IntKind.i64 0), SV.c (Value.int IntKind.i64 0),
 SV.c (Value.int IntKind.i64 0), SV.c (Value.int IntKind.i64 0),
 SV.c (Value.int IntKind.i64 0), SV.c (Value.int IntKind.i64 0),
 SV.c (Value.int IntKind.i64 0), SV.c (Value.int IntKind.i64 0)],
 EV.s (SV.c (Value.int IntKind.i64 10))],
 [])))
 (T.ret
 (AV.tup
 [EV.agg
 [SV.c (Value.int IntKind.i64 0), SV.c (Value.int IntKind.i64 0), SV.c (Value.int IntKind.i64 0),
 SV.c (Value.int IntKind.i64 0), SV.c (Value.int IntKind.i64 0), SV.c (Value.int IntKind.i64 0),
 SV.c (Value.int IntKind.i64 0), SV.c (Value.int IntKind.i64 0), SV.c (Value.int IntKind.i64 0),
 SV.c (Value.int IntKind.i64 0), SV.c (Value.int IntKind.i64 0), SV.c (Value.int IntKind.i64 0),
 SV.c (Value.int IntKind.i64 0), SV.c (Value.int IntKind.i64 0), SV.c (Value.int IntKind.i64 0)],
 EV.s (SV.c (Value.int IntKind.i64 10))],
 [])))
 (T.ret
 (AV.tup
 [EV.agg
 [SV.c (Value.int IntKind.i64 0), SV.c (Value.int IntKind.i64 0), SV.c (Value.int IntKind.i64 0),
 SV.c (Value.int IntKind.i64 0), SV.c (Value.int IntKind.i64 0), SV.c (Value.int IntKind.i64 0),
 SV.c (Value.int IntKind.i64 0), SV.c (Value.int IntKind.i64 0), SV.c (Value.int IntKind.i64 0),
 SV.c (Value.int IntKind.i64 0), SV.c (Value.int IntKind.i64 0), SV.c (Value.int IntKind.i64 0),
 SV.c (Value.int IntKind.i64 0), SV.c (Value.int IntKind.i64 0), SV.c (Value.int IntKind.i64 0)],
 EV.s (SV.c (Value.int IntKind.i64 10))],
 [])))
 (T.ret
 (AV.tup
 [EV.agg
 [SV.c (Value.int IntKind.i64 0), SV.c (Value.int IntKind.i64 0), SV.c (Value.int IntKind.i64 0),
 SV.c (Value.int IntKind.i64 0), SV.c (Value.int IntKind.i64 0), SV.c (Value.int IntKind.i64 0),
 SV.c (Value.int IntKind.i64 0), SV.c (Value.int IntKind.i64 0), SV.c (Value.int IntKind.i64 0),
 SV.c (Value.int IntKind.i64 0), SV.c (Value.int IntKind.i64 0), SV.c (Value.int IntKind.i64 0),
 SV.c (Value.int IntKind.i64 0), SV.c (Value.int IntKind.i64 0), SV.c (Value.int IntKind.i64 0)],
 EV.s (SV.c (Value.int IntKind.i64 9))],
 [])))
 (T.ret
 (AV.tup
 [EV.agg
 [SV.c (Value.int IntKind.i64 0), SV.c (Value.int IntKind.i64 0), SV.c (Value.int IntKind.i64 0),
 SV.c (Value.int IntKind.i64 0), SV.c (Value.int IntKind.i64 0), SV.c (Value.int IntKind.i64 0),
 SV.c (Value.int IntKind.i64 0), SV.c (Value.int IntKind.i64 0), SV.c (Value.int IntKind.i64 0),
 SV.c (Value.int IntKind.i64 0), SV.c (Value.int IntKind.i64 0), SV.c (Value.int IntKind.i64 0),
 SV.c (Value.int IntKind.i64 0), SV.c (Value.int IntKind.i64 0), SV.c (Value.int IntKind.i64 0)],
 EV.s (SV.c (Value.int IntKind.i64 9))],
 [])))
 (T.ret
 (AV.tup
 [EV.agg
 [SV.c (Value.int IntKind.i64 0), SV.c (Value.int IntKind.i64 0), SV.c (Value.int IntKind.i64 0),
 SV.c (Value.int IntKind.i64 0), SV.c (Value.int IntKind.i64 0), SV.c (Value.int IntKind.i64 0),
 SV.c (Value.int IntKind.i64 0), SV.c (Value.int IntKind.i64 0), SV.c (Value.int IntKind.i64 0),
 SV.c (Value.int IntKind.i64 0), SV.c (Value.int IntKind.i64 0), SV.c (Value.int IntKind.i64 0),
 SV.c (Value.int IntKind.i64 0), SV.c (Value.int IntKind.i64 0), SV.c (Value.int IntKind.i64 0)],
 EV.s (SV.c (Value.int IntKind.i64 1))],
 []))) := by kernel_rfl


end Go.Proofs.Ythckkoledhjmeaa.Ev
