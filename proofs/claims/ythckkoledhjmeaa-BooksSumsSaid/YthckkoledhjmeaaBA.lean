/-
  The abstract evaluator's trees: accounts, the program's and the document's.
-/
import Derived.Test.YthckkoledhjmeaaXP
namespace Go.Proofs.Ythckkoledhjmeaa.Ev
open Go

/-- An account. -/
structure Mi where
  id : Int
  frm : Int
  to : Int
  sent : Int
  acked : Int
  lost : Int
  packets : Int
  hits : Int
  drops : Int
  n : Int
  sumT : Int
  sumR : Int
  sumTT : Int
  sumTR : Int
  sumRR : Int

def Mi.ints (m : Mi) : List Int := [m.id, m.frm, m.to, m.sent, m.acked, m.lost, m.packets, m.hits, m.drops, m.n, m.sumT, m.sumR, m.sumTT, m.sumTR, m.sumRR]
def Mi.vals (m : Mi) : List Value := [.int .i64 m.id, .int .i64 m.frm, .int .i64 m.to, .int .i64 m.sent, .int .i64 m.acked, .int .i64 m.lost, .int .i64 m.packets, .int .i64 m.hits, .int .i64 m.drops, .int .i64 m.n, .int .i64 m.sumT, .int .i64 m.sumR, .int .i64 m.sumTT, .int .i64 m.sumTR, .int .i64 m.sumRR]
def Mi.cells (m : Mi) : List SV := [.d (.int .i64 m.id), .d (.int .i64 m.frm), .d (.int .i64 m.to), .d (.int .i64 m.sent), .d (.int .i64 m.acked), .d (.int .i64 m.lost), .d (.int .i64 m.packets), .d (.int .i64 m.hits), .d (.int .i64 m.drops), .d (.int .i64 m.n), .d (.int .i64 m.sumT), .d (.int .i64 m.sumR), .d (.int .i64 m.sumTT), .d (.int .i64 m.sumTR), .d (.int .i64 m.sumRR)]
def Mi.zero : Mi := ⟨0, 0, 0, 0, 0, 0, 0, 0, 0, 0, 0, 0, 0, 0, 0⟩

def e93 : List (Nat × Ent) := [(93, .body oN 0)]
def e94 : List (Nat × Ent) := [(94, .body o94 0), (108, .body oN 0), (66, .body oN 0)]
def e95 : List (Nat × Ent) := [(95, .body oN 0), (109, .body oN 5)]
def e107 : List (Nat × Ent) := [(107, .body oN 0)]

noncomputable def t93 (m : Mi) : T (AV × Heap) := callT Try.prog (entL e93) 1 93 [.e (.agg m.cells)] [] fun r H' => .ret (r, H')

theorem t93_eq (m : Mi) : t93 m =
 T.ite (decide (m.packets ≥ (0 : Int)))
 (T.ite (decide (m.packets ≤ (1048576 : Int)))
 (T.ite (decide (m.hits ≥ (0 : Int)))
 (T.ite (decide (m.hits ≤ m.packets))
 (T.ite (decide (m.drops ≥ (0 : Int)))
 (T.ite (decide (m.drops ≤ IntKind.i64.wrap (m.packets - m.hits)))
 (T.ret (AV.e (EV.s (SV.c (Value.bool true))), [])) (T.ret (AV.e (EV.s (SV.c (Value.bool false))), [])))
 (T.ret (AV.e (EV.s (SV.c (Value.bool false))), [])))
 (T.ret (AV.e (EV.s (SV.c (Value.bool false))), [])))
 (T.ret (AV.e (EV.s (SV.c (Value.bool false))), [])))
 (T.ret (AV.e (EV.s (SV.c (Value.bool false))), [])))
 (T.ret (AV.e (EV.s (SV.c (Value.bool false))), [])) := by kernel_rfl


noncomputable def t94 (m : Mi) : T (AV × Heap) := callT Try.prog (entL e94) 2 94 [.e (.agg m.cells)] [] fun r H' => .ret (r, H')

theorem t94_eq (m : Mi) : t94 m =
 T.ite (decide (m.sent ≥ m.packets))
 (T.ite (decide (m.sent ≤ IntKind.i64.wrap (m.packets * (9000 : Int))))
 (T.ite (decide (m.acked ≥ m.hits))
 (T.ite (decide (m.acked ≤ IntKind.i64.wrap (m.hits * (9000 : Int))))
 (T.ite (decide (m.lost ≥ m.drops))
 (T.ite (decide (m.lost ≤ IntKind.i64.wrap (m.drops * (9000 : Int))))
 (T.ite (decide (IntKind.i64.wrap (m.acked + m.lost) ≤ m.sent))
 (T.ite (IntKind.i64.wrap (m.acked + m.lost) == m.sent)
 (T.ite (IntKind.i64.wrap (m.hits + m.drops) == m.packets)
 (T.need
 (some
 (AB.cells (nat_lit 115)
 [SV.d (Value.int IntKind.i64 m.id), SV.d (Value.int IntKind.i64 m.frm),
 SV.d (Value.int IntKind.i64 m.to), SV.d (Value.int IntKind.i64 m.sent),
 SV.d (Value.int IntKind.i64 m.acked), SV.d (Value.int IntKind.i64 m.lost),
 SV.d (Value.int IntKind.i64 m.packets), SV.d (Value.int IntKind.i64 m.hits),
 SV.d (Value.int IntKind.i64 m.drops), SV.d (Value.int IntKind.i64 m.n),
 SV.d (Value.int IntKind.i64 m.sumT), SV.d (Value.int IntKind.i64 m.sumR),
 SV.d (Value.int IntKind.i64 m.sumTT), SV.d (Value.int IntKind.i64 m.sumTR),
 SV.d (Value.int IntKind.i64 m.sumRR)]) =
 some
 (AB.cells (nat_lit 115)
 [SV.d (Value.int IntKind.i64 m.id), SV.d (Value.int IntKind.i64 m.frm),
 SV.d (Value.int IntKind.i64 m.to), SV.d (Value.int IntKind.i64 m.sent),
 SV.d (Value.int IntKind.i64 m.acked), SV.d (Value.int IntKind.i64 m.lost),
 SV.d (Value.int IntKind.i64 m.packets), SV.d (Value.int IntKind.i64 m.hits),
 SV.d (Value.int IntKind.i64 m.drops), SV.d (Value.int IntKind.i64 m.n),
 SV.d (Value.int IntKind.i64 m.sumT), SV.d (Value.int IntKind.i64 m.sumR),
 SV.d (Value.int IntKind.i64 m.sumTT), SV.d (Value.int IntKind.i64 m.sumTR),
 SV.d (Value.int IntKind.i64 m.sumRR)]))
 (T.need
 (some
 (AB.cells (nat_lit 115)
 [SV.d (Value.int IntKind.i64 m.id), SV.d (Value.int IntKind.i64 m.frm),
 SV.d (Value.int IntKind.i64 m.to), SV.d (Value.int IntKind.i64 m.sent),
 SV.d (Value.int IntKind.i64 m.acked), SV.d (Value.int IntKind.i64 m.lost),
 SV.d (Value.int IntKind.i64 m.packets), SV.d (Value.int IntKind.i64 m.hits),
 SV.d (Value.int IntKind.i64 m.drops), SV.d (Value.int IntKind.i64 m.n),
 SV.d (Value.int IntKind.i64 m.sumT), SV.d (Value.int IntKind.i64 m.sumR),
 SV.d (Value.int IntKind.i64 m.sumTT), SV.d (Value.int IntKind.i64 m.sumTR),
 SV.d (Value.int IntKind.i64 m.sumRR)]) =
 some
 (AB.cells (nat_lit 115)
 [SV.d (Value.int IntKind.i64 m.id), SV.d (Value.int IntKind.i64 m.frm),
 SV.d (Value.int IntKind.i64 m.to), SV.d (Value.int IntKind.i64 m.sent),
 SV.d (Value.int IntKind.i64 m.acked), SV.d (Value.int IntKind.i64 m.lost),
 SV.d (Value.int IntKind.i64 m.packets), SV.d (Value.int IntKind.i64 m.hits),
 SV.d (Value.int IntKind.i64 m.drops), SV.d (Value.int IntKind.i64 m.n),
 SV.d (Value.int IntKind.i64 m.sumT), SV.d (Value.int IntKind.i64 m.sumR),
 SV.d (Value.int IntKind.i64 m.sumTT), SV.d (Value.int IntKind.i64 m.sumTR),
 SV.d (Value.int IntKind.i64 m.sumRR)]))
 (T.need
 (some
 (AB.cells (nat_lit 115)
 [SV.d (Value.int IntKind.i64 m.id), SV.d (Value.int IntKind.i64 m.frm),
 SV.d (Value.int IntKind.i64 m.to), SV.d (Value.int IntKind.i64 m.sent),
 SV.d (Value.int IntKind.i64 m.acked), SV.d (Value.int IntKind.i64 m.lost),
 SV.d (Value.int IntKind.i64 m.packets), SV.d (Value.int IntKind.i64 m.hits),
 SV.d (Value.int IntKind.i64 m.drops), SV.d (Value.int IntKind.i64 m.n),
 SV.d (Value.int IntKind.i64 m.sumT), SV.d (Value.int IntKind.i64 m.sumR),
 SV.d (Value.int IntKind.i64 m.sumTT), SV.d (Value.int IntKind.i64 m.sumTR),
 SV.d (Value.int IntKind.i64 m.sumRR)]) =
 some
 (AB.cells (nat_lit 115)
 [SV.d (Value.int IntKind.i64 m.id), SV.d (Value.int IntKind.i64 m.frm),
 SV.d (Value.int IntKind.i64 m.to), SV.d (Value.int IntKind.i64 m.sent),
 SV.d (Value.int IntKind.i64 m.acked), SV.d (Value.int IntKind.i64 m.lost),
 SV.d (Value.int IntKind.i64 m.packets), SV.d (Value.int IntKind.i64 m.hits),
 SV.d (Value.int IntKind.i64 m.drops), SV.d (Value.int IntKind.i64 m.n),
 SV.d (Value.int IntKind.i64 m.sumT), SV.d (Value.int IntKind.i64 m.sumR),
 SV.d (Value.int IntKind.i64 m.sumTT), SV.d (Value.int IntKind.i64 m.sumTR),
 SV.d (Value.int IntKind.i64 m.sumRR)]))
 (T.ret (AV.e (EV.s (SV.c (Value.bool true))), [])))))
 (T.need
 (some
 (AB.cells (nat_lit 115)
 [SV.d (Value.int IntKind.i64 m.id), SV.d (Value.int IntKind.i64 m.frm),
 SV.d (Value.int IntKind.i64 m.to), SV.d (Value.int IntKind.i64 m.sent),
 SV.d (Value.int IntKind.i64 m.acked), SV.d (Value.int IntKind.i64 m.lost),
 SV.d (Value.int IntKind.i64 m.packets), SV.d (Value.int IntKind.i64 m.hits),
 SV.d (Value.int IntKind.i64 m.drops), SV.d (Value.int IntKind.i64 m.n),
 SV.d (Value.int IntKind.i64 m.sumT), SV.d (Value.int IntKind.i64 m.sumR),
 SV.d (Value.int IntKind.i64 m.sumTT), SV.d (Value.int IntKind.i64 m.sumTR),
 SV.d (Value.int IntKind.i64 m.sumRR)]) =
 some
 (AB.cells (nat_lit 115)
 [SV.d (Value.int IntKind.i64 m.id), SV.d (Value.int IntKind.i64 m.frm),
 SV.d (Value.int IntKind.i64 m.to), SV.d (Value.int IntKind.i64 m.sent),
 SV.d (Value.int IntKind.i64 m.acked), SV.d (Value.int IntKind.i64 m.lost),
 SV.d (Value.int IntKind.i64 m.packets), SV.d (Value.int IntKind.i64 m.hits),
 SV.d (Value.int IntKind.i64 m.drops), SV.d (Value.int IntKind.i64 m.n),
 SV.d (Value.int IntKind.i64 m.sumT), SV.d (Value.int IntKind.i64 m.sumR),
 SV.d (Value.int IntKind.i64 m.sumTT), SV.d (Value.int IntKind.i64 m.sumTR),
 SV.d (Value.int IntKind.i64 m.sumRR)]))
 (T.need
 (some
 (AB.cells (nat_lit 115)
 [SV.d (Value.int IntKind.i64 m.id), SV.d (Value.int IntKind.i64 m.frm),
 SV.d (Value.int IntKind.i64 m.to), SV.d (Value.int IntKind.i64 m.sent),
 SV.d (Value.int IntKind.i64 m.acked), SV.d (Value.int IntKind.i64 m.lost),
 SV.d (Value.int IntKind.i64 m.packets), SV.d (Value.int IntKind.i64 m.hits),
 SV.d (Value.int IntKind.i64 m.drops), SV.d (Value.int IntKind.i64 m.n),
 SV.d (Value.int IntKind.i64 m.sumT), SV.d (Value.int IntKind.i64 m.sumR),
 SV.d (Value.int IntKind.i64 m.sumTT), SV.d (Value.int IntKind.i64 m.sumTR),
 SV.d (Value.int IntKind.i64 m.sumRR)]) =
 some
 (AB.cells (nat_lit 115)
 [SV.d (Value.int IntKind.i64 m.id), SV.d (Value.int IntKind.i64 m.frm),
 SV.d (Value.int IntKind.i64 m.to), SV.d (Value.int IntKind.i64 m.sent),
 SV.d (Value.int IntKind.i64 m.acked), SV.d (Value.int IntKind.i64 m.lost),
 SV.d (Value.int IntKind.i64 m.packets), SV.d (Value.int IntKind.i64 m.hits),
 SV.d (Value.int IntKind.i64 m.drops), SV.d (Value.int IntKind.i64 m.n),
 SV.d (Value.int IntKind.i64 m.sumT), SV.d (Value.int IntKind.i64 m.sumR),
 SV.d (Value.int IntKind.i64 m.sumTT), SV.d (Value.int IntKind.i64 m.sumTR),
 SV.d (Value.int IntKind.i64 m.sumRR)]))
 (T.need
 (some
 (AB.cells (nat_lit 115)
 [SV.d (Value.int IntKind.i64 m.id), SV.d (Value.int IntKind.i64 m.frm),
 SV.d (Value.int IntKind.i64 m.to), SV.d (Value.int IntKind.i64 m.sent),
 SV.d (Value.int IntKind.i64 m.acked), SV.d (Value.int IntKind.i64 m.lost),
 SV.d (Value.int IntKind.i64 m.packets), SV.d (Value.int IntKind.i64 m.hits),
 SV.d (Value.int IntKind.i64 m.drops), SV.d (Value.int IntKind.i64 m.n),
 SV.d (Value.int IntKind.i64 m.sumT), SV.d (Value.int IntKind.i64 m.sumR),
 SV.d (Value.int IntKind.i64 m.sumTT), SV.d (Value.int IntKind.i64 m.sumTR),
 SV.d (Value.int IntKind.i64 m.sumRR)]) =
 some
 (AB.cells (nat_lit 115)
 [SV.d (Value.int IntKind.i64 m.id), SV.d (Value.int IntKind.i64 m.frm),
 SV.d (Value.int IntKind.i64 m.to), SV.d (Value.int IntKind.i64 m.sent),
 SV.d (Value.int IntKind.i64 m.acked), SV.d (Value.int IntKind.i64 m.lost),
 SV.d (Value.int IntKind.i64 m.packets), SV.d (Value.int IntKind.i64 m.hits),
 SV.d (Value.int IntKind.i64 m.drops), SV.d (Value.int IntKind.i64 m.n),
 SV.d (Value.int IntKind.i64 m.sumT), SV.d (Value.int IntKind.i64 m.sumR),
 SV.d (Value.int IntKind.i64 m.sumTT), SV.d (Value.int IntKind.i64 m.sumTR),
 SV.d (Value.int IntKind.i64 m.sumRR)]))
 (T.ret (AV.e (EV.s (SV.c (Value.bool false))), []))))))
 (T.ite (IntKind.i64.wrap (m.hits + m.drops) == m.packets)
 (T.need
 (some
 (AB.cells (nat_lit 115)
 [SV.d (Value.int IntKind.i64 m.id), SV.d (Value.int IntKind.i64 m.frm),
 SV.d (Value.int IntKind.i64 m.to), SV.d (Value.int IntKind.i64 m.sent),
 SV.d (Value.int IntKind.i64 m.acked), SV.d (Value.int IntKind.i64 m.lost),
 SV.d (Value.int IntKind.i64 m.packets), SV.d (Value.int IntKind.i64 m.hits),
 SV.d (Value.int IntKind.i64 m.drops), SV.d (Value.int IntKind.i64 m.n),
 SV.d (Value.int IntKind.i64 m.sumT), SV.d (Value.int IntKind.i64 m.sumR),
 SV.d (Value.int IntKind.i64 m.sumTT), SV.d (Value.int IntKind.i64 m.sumTR),
 SV.d (Value.int IntKind.i64 m.sumRR)]) =
 some
 (AB.cells (nat_lit 115)
 [SV.d (Value.int IntKind.i64 m.id), SV.d (Value.int IntKind.i64 m.frm),
 SV.d (Value.int IntKind.i64 m.to), SV.d (Value.int IntKind.i64 m.sent),
 SV.d (Value.int IntKind.i64 m.acked), SV.d (Value.int IntKind.i64 m.lost),
 SV.d (Value.int IntKind.i64 m.packets), SV.d (Value.int IntKind.i64 m.hits),
 SV.d (Value.int IntKind.i64 m.drops), SV.d (Value.int IntKind.i64 m.n),
 SV.d (Value.int IntKind.i64 m.sumT), SV.d (Value.int IntKind.i64 m.sumR),
 SV.d (Value.int IntKind.i64 m.sumTT), SV.d (Value.int IntKind.i64 m.sumTR),
 SV.d (Value.int IntKind.i64 m.sumRR)]))
 (T.need
 (some
 (AB.cells (nat_lit 115)
 [SV.d (Value.int IntKind.i64 m.id), SV.d (Value.int IntKind.i64 m.frm),
 SV.d (Value.int IntKind.i64 m.to), SV.d (Value.int IntKind.i64 m.sent),
 SV.d (Value.int IntKind.i64 m.acked), SV.d (Value.int IntKind.i64 m.lost),
 SV.d (Value.int IntKind.i64 m.packets), SV.d (Value.int IntKind.i64 m.hits),
 SV.d (Value.int IntKind.i64 m.drops), SV.d (Value.int IntKind.i64 m.n),
 SV.d (Value.int IntKind.i64 m.sumT), SV.d (Value.int IntKind.i64 m.sumR),
 SV.d (Value.int IntKind.i64 m.sumTT), SV.d (Value.int IntKind.i64 m.sumTR),
 SV.d (Value.int IntKind.i64 m.sumRR)]) =
 some
 (AB.cells (nat_lit 115)
 [SV.d (Value.int IntKind.i64 m.id), SV.d (Value.int IntKind.i64 m.frm),
 SV.d (Value.int IntKind.i64 m.to), SV.d (Value.int IntKind.i64 m.sent),
 SV.d (Value.int IntKind.i64 m.acked), SV.d (Value.int IntKind.i64 m.lost),
 SV.d (Value.int IntKind.i64 m.packets), SV.d (Value.int IntKind.i64 m.hits),
 SV.d (Value.int IntKind.i64 m.drops), SV.d (Value.int IntKind.i64 m.n),
 SV.d (Value.int IntKind.i64 m.sumT), SV.d (Value.int IntKind.i64 m.sumR),
 SV.d (Value.int IntKind.i64 m.sumTT), SV.d (Value.int IntKind.i64 m.sumTR),
 SV.d (Value.int IntKind.i64 m.sumRR)]))
 (T.need
 (some
 (AB.cells (nat_lit 115)
 [SV.d (Value.int IntKind.i64 m.id), SV.d (Value.int IntKind.i64 m.frm),
 SV.d (Value.int IntKind.i64 m.to), SV.d (Value.int IntKind.i64 m.sent),
 SV.d (Value.int IntKind.i64 m.acked), SV.d (Value.int IntKind.i64 m.lost),
 SV.d (Value.int IntKind.i64 m.packets), SV.d (Value.int IntKind.i64 m.hits),
 SV.d (Value.int IntKind.i64 m.drops), SV.d (Value.int IntKind.i64 m.n),
 SV.d (Value.int IntKind.i64 m.sumT), SV.d (Value.int IntKind.i64 m.sumR),
 SV.d (Value.int IntKind.i64 m.sumTT), SV.d (Value.int IntKind.i64 m.sumTR),
 SV.d (Value.int IntKind.i64 m.sumRR)]) =
 some
 (AB.cells (nat_lit 115)
 [SV.d (Value.int IntKind.i64 m.id), SV.d (Value.int IntKind.i64 m.frm),
 SV.d (Value.int IntKind.i64 m.to), SV.d (Value.int IntKind.i64 m.sent),
 SV.d (Value.int IntKind.i64 m.acked), SV.d (Value.int IntKind.i64 m.lost),
 SV.d (Value.int IntKind.i64 m.packets), SV.d (Value.int IntKind.i64 m.hits),
 SV.d (Value.int IntKind.i64 m.drops), SV.d (Value.int IntKind.i64 m.n),
 SV.d (Value.int IntKind.i64 m.sumT), SV.d (Value.int IntKind.i64 m.sumR),
 SV.d (Value.int IntKind.i64 m.sumTT), SV.d (Value.int IntKind.i64 m.sumTR),
 SV.d (Value.int IntKind.i64 m.sumRR)]))
 (T.ret (AV.e (EV.s (SV.c (Value.bool false))), [])))))
 (T.need
 (some
 (AB.cells (nat_lit 115)
 [SV.d (Value.int IntKind.i64 m.id), SV.d (Value.int IntKind.i64 m.frm),
 SV.d (Value.int IntKind.i64 m.to), SV.d (Value.int IntKind.i64 m.sent),
 SV.d (Value.int IntKind.i64 m.acked), SV.d (Value.int IntKind.i64 m.lost),
 SV.d (Value.int IntKind.i64 m.packets), SV.d (Value.int IntKind.i64 m.hits),
 SV.d (Value.int IntKind.i64 m.drops), SV.d (Value.int IntKind.i64 m.n),
 SV.d (Value.int IntKind.i64 m.sumT), SV.d (Value.int IntKind.i64 m.sumR),
 SV.d (Value.int IntKind.i64 m.sumTT), SV.d (Value.int IntKind.i64 m.sumTR),
 SV.d (Value.int IntKind.i64 m.sumRR)]) =
 some
 (AB.cells (nat_lit 115)
 [SV.d (Value.int IntKind.i64 m.id), SV.d (Value.int IntKind.i64 m.frm),
 SV.d (Value.int IntKind.i64 m.to), SV.d (Value.int IntKind.i64 m.sent),
 SV.d (Value.int IntKind.i64 m.acked), SV.d (Value.int IntKind.i64 m.lost),
 SV.d (Value.int IntKind.i64 m.packets), SV.d (Value.int IntKind.i64 m.hits),
 SV.d (Value.int IntKind.i64 m.drops), SV.d (Value.int IntKind.i64 m.n),
 SV.d (Value.int IntKind.i64 m.sumT), SV.d (Value.int IntKind.i64 m.sumR),
 SV.d (Value.int IntKind.i64 m.sumTT), SV.d (Value.int IntKind.i64 m.sumTR),
 SV.d (Value.int IntKind.i64 m.sumRR)]))
 (T.need
 (some
 (AB.cells (nat_lit 115)
 [SV.d (Value.int IntKind.i64 m.id), SV.d (Value.int IntKind.i64 m.frm),
 SV.d (Value.int IntKind.i64 m.to), SV.d (Value.int IntKind.i64 m.sent),
 SV.d (Value.int IntKind.i64 m.acked), SV.d (Value.int IntKind.i64 m.lost),
 SV.d (Value.int IntKind.i64 m.packets), SV.d (Value.int IntKind.i64 m.hits),
 SV.d (Value.int IntKind.i64 m.drops), SV.d (Value.int IntKind.i64 m.n),
 SV.d (Value.int IntKind.i64 m.sumT), SV.d (Value.int IntKind.i64 m.sumR),
 SV.d (Value.int IntKind.i64 m.sumTT), SV.d (Value.int IntKind.i64 m.sumTR),
 SV.d (Value.int IntKind.i64 m.sumRR)]) =
 some
 (AB.cells (nat_lit 115)
 [SV.d (Value.int IntKind.i64 m.id), SV.d (Value.int IntKind.i64 m.frm),
 SV.d (Value.int IntKind.i64 m.to), SV.d (Value.int IntKind.i64 m.sent),
 SV.d (Value.int IntKind.i64 m.acked), SV.d (Value.int IntKind.i64 m.lost),
 SV.d (Value.int IntKind.i64 m.packets), SV.d (Value.int IntKind.i64 m.hits),
 SV.d (Value.int IntKind.i64 m.drops), SV.d (Value.int IntKind.i64 m.n),
 SV.d (Value.int IntKind.i64 m.sumT), SV.d (Value.int IntKind.i64 m.sumR),
 SV.d (Value.int IntKind.i64 m.sumTT), SV.d (Value.int IntKind.i64 m.sumTR),
 SV.d (Value.int IntKind.i64 m.sumRR)]))
 (T.need
 (some
 (AB.cells (nat_lit 115)
 [SV.d (Value.int IntKind.i64 m.id), SV.d (Value.int IntKind.i64 m.frm),
 SV.d (Value.int IntKind.i64 m.to), SV.d (Value.int IntKind.i64 m.sent),
 SV.d (Value.int IntKind.i64 m.acked), SV.d (Value.int IntKind.i64 m.lost),
 SV.d (Value.int IntKind.i64 m.packets), SV.d (Value.int IntKind.i64 m.hits),
 SV.d (Value.int IntKind.i64 m.drops), SV.d (Value.int IntKind.i64 m.n),
 SV.d (Value.int IntKind.i64 m.sumT), SV.d (Value.int IntKind.i64 m.sumR),
 SV.d (Value.int IntKind.i64 m.sumTT), SV.d (Value.int IntKind.i64 m.sumTR),
 SV.d (Value.int IntKind.i64 m.sumRR)]) =
 some
 (AB.cells (nat_lit 115)
 [SV.d (Value.int IntKind.i64 m.id), SV.d (Value.int IntKind.i64 m.frm),
 SV.d (Value.int IntKind.i64 m.to), SV.d (Value.int IntKind.i64 m.sent),
 SV.d (Value.int IntKind.i64 m.acked), SV.d (Value.int IntKind.i64 m.lost),
 SV.d (Value.int IntKind.i64 m.packets), SV.d (Value.int IntKind.i64 m.hits),
 SV.d (Value.int IntKind.i64 m.drops), SV.d (Value.int IntKind.i64 m.n),
 SV.d (Value.int IntKind.i64 m.sumT), SV.d (Value.int IntKind.i64 m.sumR),
 SV.d (Value.int IntKind.i64 m.sumTT), SV.d (Value.int IntKind.i64 m.sumTR),
 SV.d (Value.int IntKind.i64 m.sumRR)]))
 (T.ret (AV.e (EV.s (SV.c (Value.bool true))), [])))))))
 (T.ret (AV.e (EV.s (SV.c (Value.bool false))), [])))
 (T.ret (AV.e (EV.s (SV.c (Value.bool false))), [])))
 (T.ret (AV.e (EV.s (SV.c (Value.bool false))), [])))
 (T.ret (AV.e (EV.s (SV.c (Value.bool false))), [])))
 (T.ret (AV.e (EV.s (SV.c (Value.bool false))), [])))
 (T.ret (AV.e (EV.s (SV.c (Value.bool false))), [])))
 (T.ret (AV.e (EV.s (SV.c (Value.bool false))), [])) := by kernel_rfl


noncomputable def t95 (m : Mi) : T (AV × Heap) := callT Try.prog (entL e95) 2 95 [.e (.agg m.cells)] [] fun r H' => .ret (r, H')

theorem t95_eq (m : Mi) : t95 m =
 T.ite (decide (m.n < (0 : Int))) (T.ret (AV.e (EV.s (SV.c (Value.bool false))), []))
 (T.ite (decide (m.n > (1024 : Int))) (T.ret (AV.e (EV.s (SV.c (Value.bool false))), []))
 (T.ite (decide (m.n > m.hits)) (T.ret (AV.e (EV.s (SV.c (Value.bool false))), []))
 (T.ite true
 (T.need ((0 : Int) ≤ (0 : Int) ∧ (0 : Int) < (↑(2 : Nat) : Int))
 (T.need
 ((0 : Nat) <
 (chunksOf (1 : Nat) (2 : Nat) [Value.int IntKind.i64 m.sumT, Value.int IntKind.i64 m.sumR]).length)
 (T.ite (decide (m.sumT < (0 : Int))) (T.ret (AV.e (EV.s (SV.c (Value.bool false))), []))
 (T.ite (decide (m.sumT > IntKind.i64.wrap (m.n * (60000000 : Int))))
 (T.ret (AV.e (EV.s (SV.c (Value.bool false))), []))
 (T.ite true
 (T.need
 ((0 : Int) ≤ IntKind.i64.wrap ((0 : Int) + (1 : Int)) ∧
 IntKind.i64.wrap ((0 : Int) + (1 : Int)) < (↑(2 : Nat) : Int))
 (T.need
 ((1 : Nat) <
 (chunksOf (1 : Nat) (2 : Nat)
 [Value.int IntKind.i64 m.sumT, Value.int IntKind.i64 m.sumR]).length)
 (T.ite (decide (m.sumR < (0 : Int))) (T.ret (AV.e (EV.s (SV.c (Value.bool false))), []))
 (T.ite (decide (m.sumR > IntKind.i64.wrap (m.n * (60000000 : Int))))
 (T.ret (AV.e (EV.s (SV.c (Value.bool false))), []))
 (T.ite false
 (T.need
 ((0 : Int) ≤ IntKind.i64.wrap (IntKind.i64.wrap ((0 : Int) + (1 : Int)) + (1 : Int)) ∧
 IntKind.i64.wrap (IntKind.i64.wrap ((0 : Int) + (1 : Int)) + (1 : Int)) <
 (↑(2 : Nat) : Int))
 (T.need
 ((2 : Nat) <
 (chunksOf (1 : Nat) (2 : Nat)
 [Value.int IntKind.i64 m.sumT, Value.int IntKind.i64 m.sumR]).length)
 T.fail))
 (T.ite true
 (T.need ((0 : Int) ≤ (0 : Int) ∧ (0 : Int) < (↑(3 : Nat) : Int))
 (T.need
 ((0 : Nat) <
 (chunksOf (1 : Nat) (3 : Nat)
 [Value.int IntKind.i64 m.sumTT, Value.int IntKind.i64 m.sumTR,
 Value.int IntKind.i64 m.sumRR]).length)
 (T.ite (decide (m.sumTT < (0 : Int)))
 (T.ret (AV.e (EV.s (SV.c (Value.bool false))), []))
 (T.ite (decide (m.sumTT > IntKind.i64.wrap (m.n * (3600000000000000 : Int))))
 (T.ret (AV.e (EV.s (SV.c (Value.bool false))), []))
 (T.ite true
 (T.need
 ((0 : Int) ≤ IntKind.i64.wrap ((0 : Int) + (1 : Int)) ∧
 IntKind.i64.wrap ((0 : Int) + (1 : Int)) < (↑(3 : Nat) : Int))
 (T.need
 ((1 : Nat) <
 (chunksOf (1 : Nat) (3 : Nat)
 [Value.int IntKind.i64 m.sumTT, Value.int IntKind.i64 m.sumTR,
 Value.int IntKind.i64 m.sumRR]).length)
 (T.ite (decide (m.sumTR < (0 : Int)))
 (T.ret (AV.e (EV.s (SV.c (Value.bool false))), []))
 (T.ite
 (decide (m.sumTR > IntKind.i64.wrap (m.n * (3600000000000000 : Int))))
 (T.ret (AV.e (EV.s (SV.c (Value.bool false))), []))
 (T.ite true
 (T.need
 ((0 : Int) ≤
 IntKind.i64.wrap
 (IntKind.i64.wrap ((0 : Int) + (1 : Int)) + (1 : Int)) ∧
 IntKind.i64.wrap
 (IntKind.i64.wrap ((0 : Int) + (1 : Int)) + (1 : Int)) <
 (↑(3 : Nat) : Int))
 (T.need
 ((2 : Nat) <
 (chunksOf (1 : Nat) (3 : Nat)
 [Value.int IntKind.i64 m.sumTT,
 Value.int IntKind.i64 m.sumTR,
 Value.int IntKind.i64 m.sumRR]).length)
 (T.ite (decide (m.sumRR < (0 : Int)))
 (T.ret (AV.e (EV.s (SV.c (Value.bool false))), []))
 (T.ite
 (decide
 (m.sumRR >
 IntKind.i64.wrap (m.n * (3600000000000000 : Int))))
 (T.ret (AV.e (EV.s (SV.c (Value.bool false))), []))
 (T.ite false
 (T.need
 ((0 : Int) ≤
 IntKind.i64.wrap
 (IntKind.i64.wrap
 (IntKind.i64.wrap ((0 : Int) + (1 : Int)) +
 (1 : Int)) +
 (1 : Int)) ∧
 IntKind.i64.wrap
 (IntKind.i64.wrap
 (IntKind.i64.wrap ((0 : Int) + (1 : Int)) +
 (1 : Int)) +
 (1 : Int)) <
 (↑(3 : Nat) : Int))
 (T.need
 ((3 : Nat) <
 (chunksOf (1 : Nat) (3 : Nat)
 [Value.int IntKind.i64 m.sumTT,
 Value.int IntKind.i64 m.sumTR,
 Value.int IntKind.i64 m.sumRR]).length)
 T.fail))
 (T.ret (AV.e (EV.s (SV.c (Value.bool true))), [])))))))
 (T.ret (AV.e (EV.s (SV.c (Value.bool true))), [])))))))
 (T.ret (AV.e (EV.s (SV.c (Value.bool true))), [])))))))
 (T.ret (AV.e (EV.s (SV.c (Value.bool true))), []))))))))
 (T.ite true
 (T.need ((0 : Int) ≤ (0 : Int) ∧ (0 : Int) < (↑(3 : Nat) : Int))
 (T.need
 ((0 : Nat) <
 (chunksOf (1 : Nat) (3 : Nat)
 [Value.int IntKind.i64 m.sumTT, Value.int IntKind.i64 m.sumTR,
 Value.int IntKind.i64 m.sumRR]).length)
 (T.ite (decide (m.sumTT < (0 : Int))) (T.ret (AV.e (EV.s (SV.c (Value.bool false))), []))
 (T.ite (decide (m.sumTT > IntKind.i64.wrap (m.n * (3600000000000000 : Int))))
 (T.ret (AV.e (EV.s (SV.c (Value.bool false))), []))
 (T.ite true
 (T.need
 ((0 : Int) ≤ IntKind.i64.wrap ((0 : Int) + (1 : Int)) ∧
 IntKind.i64.wrap ((0 : Int) + (1 : Int)) < (↑(3 : Nat) : Int))
 (T.need
 ((1 : Nat) <
 (chunksOf (1 : Nat) (3 : Nat)
 [Value.int IntKind.i64 m.sumTT, Value.int IntKind.i64 m.sumTR,
 Value.int IntKind.i64 m.sumRR]).length)
 (T.ite (decide (m.sumTR < (0 : Int)))
 (T.ret (AV.e (EV.s (SV.c (Value.bool false))), []))
 (T.ite (decide (m.sumTR > IntKind.i64.wrap (m.n * (3600000000000000 : Int))))
 (T.ret (AV.e (EV.s (SV.c (Value.bool false))), []))
 (T.ite true
 (T.need
 ((0 : Int) ≤
 IntKind.i64.wrap (IntKind.i64.wrap ((0 : Int) + (1 : Int)) + (1 : Int)) ∧
 IntKind.i64.wrap (IntKind.i64.wrap ((0 : Int) + (1 : Int)) + (1 : Int)) <
 (↑(3 : Nat) : Int))
 (T.need
 ((2 : Nat) <
 (chunksOf (1 : Nat) (3 : Nat)
 [Value.int IntKind.i64 m.sumTT, Value.int IntKind.i64 m.sumTR,
 Value.int IntKind.i64 m.sumRR]).length)
 (T.ite (decide (m.sumRR < (0 : Int)))
 (T.ret (AV.e (EV.s (SV.c (Value.bool false))), []))
 (T.ite
 (decide (m.sumRR > IntKind.i64.wrap (m.n * (3600000000000000 : Int))))
 (T.ret (AV.e (EV.s (SV.c (Value.bool false))), []))
 (T.ite false
 (T.need
 ((0 : Int) ≤
 IntKind.i64.wrap
 (IntKind.i64.wrap
 (IntKind.i64.wrap ((0 : Int) + (1 : Int)) + (1 : Int)) +
 (1 : Int)) ∧
 IntKind.i64.wrap
 (IntKind.i64.wrap
 (IntKind.i64.wrap ((0 : Int) + (1 : Int)) + (1 : Int)) +
 (1 : Int)) <
 (↑(3 : Nat) : Int))
 (T.need
 ((3 : Nat) <
 (chunksOf (1 : Nat) (3 : Nat)
 [Value.int IntKind.i64 m.sumTT,
 Value.int IntKind.i64 m.sumTR,
 Value.int IntKind.i64 m.sumRR]).length)
 T.fail))
 (T.ret (AV.e (EV.s (SV.c (Value.bool true))), [])))))))
 (T.ret (AV.e (EV.s (SV.c (Value.bool true))), [])))))))
 (T.ret (AV.e (EV.s (SV.c (Value.bool true))), [])))))))
 (T.ret (AV.e (EV.s (SV.c (Value.bool true))), []))))))))
 (T.ite true
 (T.need ((0 : Int) ≤ (0 : Int) ∧ (0 : Int) < (↑(3 : Nat) : Int))
 (T.need
 ((0 : Nat) <
 (chunksOf (1 : Nat) (3 : Nat)
 [Value.int IntKind.i64 m.sumTT, Value.int IntKind.i64 m.sumTR,
 Value.int IntKind.i64 m.sumRR]).length)
 (T.ite (decide (m.sumTT < (0 : Int))) (T.ret (AV.e (EV.s (SV.c (Value.bool false))), []))
 (T.ite (decide (m.sumTT > IntKind.i64.wrap (m.n * (3600000000000000 : Int))))
 (T.ret (AV.e (EV.s (SV.c (Value.bool false))), []))
 (T.ite true
 (T.need
 ((0 : Int) ≤ IntKind.i64.wrap ((0 : Int) + (1 : Int)) ∧
 IntKind.i64.wrap ((0 : Int) + (1 : Int)) < (↑(3 : Nat) : Int))
 (T.need
 ((1 : Nat) <
 (chunksOf (1 : Nat) (3 : Nat)
 [Value.int IntKind.i64 m.sumTT, Value.int IntKind.i64 m.sumTR,
 Value.int IntKind.i64 m.sumRR]).length)
 (T.ite (decide (m.sumTR < (0 : Int))) (T.ret (AV.e (EV.s (SV.c (Value.bool false))), []))
 (T.ite (decide (m.sumTR > IntKind.i64.wrap (m.n * (3600000000000000 : Int))))
 (T.ret (AV.e (EV.s (SV.c (Value.bool false))), []))
 (T.ite true
 (T.need
 ((0 : Int) ≤ IntKind.i64.wrap (IntKind.i64.wrap ((0 : Int) + (1 : Int)) + (1 : Int)) ∧
 IntKind.i64.wrap (IntKind.i64.wrap ((0 : Int) + (1 : Int)) + (1 : Int)) <
 (↑(3 : Nat) : Int))
 (T.need
 ((2 : Nat) <
 (chunksOf (1 : Nat) (3 : Nat)
 [Value.int IntKind.i64 m.sumTT, Value.int IntKind.i64 m.sumTR,
 Value.int IntKind.i64 m.sumRR]).length)
 (T.ite (decide (m.sumRR < (0 : Int)))
 (T.ret (AV.e (EV.s (SV.c (Value.bool false))), []))
 (T.ite (decide (m.sumRR > IntKind.i64.wrap (m.n * (3600000000000000 : Int))))
 (T.ret (AV.e (EV.s (SV.c (Value.bool false))), []))
 (T.ite false
 (T.need
 ((0 : Int) ≤
 IntKind.i64.wrap
 (IntKind.i64.wrap
 (IntKind.i64.wrap ((0 : Int) + (1 : Int)) + (1 : Int)) +
 (1 : Int)) ∧
 IntKind.i64.wrap
 (IntKind.i64.wrap
 (IntKind.i64.wrap ((0 : Int) + (1 : Int)) + (1 : Int)) +
 (1 : Int)) <
 (↑(3 : Nat) : Int))
 (T.need
 ((3 : Nat) <
 (chunksOf (1 : Nat) (3 : Nat)
 [Value.int IntKind.i64 m.sumTT, Value.int IntKind.i64 m.sumTR,
 Value.int IntKind.i64 m.sumRR]).length)
 T.fail))
 (T.ret (AV.e (EV.s (SV.c (Value.bool true))), [])))))))
 (T.ret (AV.e (EV.s (SV.c (Value.bool true))), [])))))))
 (T.ret (AV.e (EV.s (SV.c (Value.bool true))), [])))))))
 (T.ret (AV.e (EV.s (SV.c (Value.bool true))), [])))))) := by kernel_rfl


noncomputable def t107 (m : Mi) : T (AV × Heap) := callT Try.prog (entL e107) 2 107 [.e (.agg m.cells)] [] fun r H' => .ret (r, H')

theorem t107_eq (m : Mi) : t107 m =
 T.ite (decide (m.sumT < (0 : Int))) (T.ret (AV.e (EV.s (SV.c (Value.bool false))), []))
 (T.ite (decide (m.sumT > IntKind.i64.wrap (m.n * (60000000 : Int))))
 (T.ret (AV.e (EV.s (SV.c (Value.bool false))), []))
 (T.ite (decide (m.sumR < (0 : Int))) (T.ret (AV.e (EV.s (SV.c (Value.bool false))), []))
 (T.ite (decide (m.sumR > IntKind.i64.wrap (m.n * (60000000 : Int))))
 (T.ret (AV.e (EV.s (SV.c (Value.bool false))), []))
 (T.ite (decide (m.sumTT ≥ (0 : Int)))
 (T.ite (decide (m.sumTT ≤ IntKind.i64.wrap (IntKind.i64.wrap (m.n * (60000000 : Int)) * (60000000 : Int))))
 (T.ite (decide (m.sumTR ≥ (0 : Int)))
 (T.ite
 (decide (m.sumTR ≤ IntKind.i64.wrap (IntKind.i64.wrap (m.n * (60000000 : Int)) * (60000000 : Int))))
 (T.ite (decide (m.sumRR ≥ (0 : Int)))
 (T.ite
 (decide (m.sumRR ≤ IntKind.i64.wrap (IntKind.i64.wrap (m.n * (60000000 : Int)) * (60000000 : Int))))
 (T.ret (AV.e (EV.s (SV.c (Value.bool true))), []))
 (T.ret (AV.e (EV.s (SV.c (Value.bool false))), [])))
 (T.ret (AV.e (EV.s (SV.c (Value.bool false))), [])))
 (T.ret (AV.e (EV.s (SV.c (Value.bool false))), [])))
 (T.ret (AV.e (EV.s (SV.c (Value.bool false))), [])))
 (T.ret (AV.e (EV.s (SV.c (Value.bool false))), [])))
 (T.ret (AV.e (EV.s (SV.c (Value.bool false))), [])))))) := by kernel_rfl


end Go.Proofs.Ythckkoledhjmeaa.Ev
