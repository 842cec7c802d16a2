/-
  The abstract evaluator's trees: books, the document's.
-/
import Derived.Test.YthckkoledhjmeaaBS
namespace Go.Proofs.Ythckkoledhjmeaa.Ev
open Go

/-- The first way is gone, surely. -/
def sureT {α : Type} : T α → T α
  | .ite b t _ => .need (b = true) t
  | x => x

def sure (s : List AV → Heap → T (AV × Heap)) (args : List AV) (H : Heap) : T (AV × Heap) := sureT (s args H)

theorem sureT_sat {α : Type} {P : Program} {Q : α → Prop} {t : T α} (h : (sureT t).sat P Q) : t.sat P Q := by
  unfold sureT at h
  split at h
  · exact ⟨fun _ => h.2, fun hb => by rw [h.1] at hb; cases hb⟩
  · exact h

theorem sure_ok {P : Program} {f : Nat} {s : List AV → Heap → T (AV × Heap)} (h : (Ent.summ s).ok P f) : (Ent.summ (sure s)).ok P f :=
  fun args H Q hq => h args H Q (sureT_sat hq)

def e50 : List (Nat × Ent) := [(50, .body o50 0), (72, .body oN 0), (40, .body oN 0), (73, .summ (sure sClose)), (74, .summ s74), (75, .summ (sure sOpen))]
def e51 : List (Nat × Ent) := [(51, .body o51 0), (72, .body oN 0), (40, .body oN 0), (76, .summ sSnd), (13, .summ s13), (74, .summ s74)]
def e52 : List (Nat × Ent) := [(52, .body o52 0), (72, .body oN 0), (40, .body oN 0), (15, .summ s15), (78, .summ s78), (77, .summ (sure sAck)), (74, .summ s74)]
def e53 : List (Nat × Ent) := [(53, .body o53 0), (72, .body oN 0), (40, .body oN 0), (15, .summ s15), (78, .summ s78), (79, .summ (sure sLose)), (74, .summ s74)]
def e55 : List (Nat × Ent) := [(55, .body oN 0), (80, .summ sDone)]

noncomputable def t50 (L : LSt) (k : Nat) (pg : Nat → List Value) (n : Nat) (f : Nat → Mi) (now id tmo at' : Int) : T (AV × Heap) := callT Try.prog (entL e50) 4 50 [.e (.s (.ptr 0 0)), .d (.int .i64 at')] (rH L k pg n (miF f) now id tmo) fun r H' => .ret (r, H')

theorem t50_eq (L : LSt) (k : Nat) (pg : Nat → List Value) (n : Nat) (f : Nat → Mi) (now id tmo at' : Int) : t50 L k pg n f now id tmo at' =
 T.ite (decide (at' ≥ 0))
 (T.ite (decide (at' ≤ 1099511627776))
 (T.ite (decide (at' < now))
 (T.ret
 (AV.tup [EV.s (SV.c (Value.int IntKind.i64 0)), EV.s (SV.c (Value.int IntKind.i64 10))],
 [AB.cells 72
 [SV.ptr 1 0, SV.sl 3 15 0 n 0, SV.d (Value.int IntKind.i64 id), SV.d (Value.int IntKind.i64 tmo),
 SV.d (Value.int IntKind.i64 now)],
 AB.cells 44
 [SV.d (Value.int IntKind.i64 L.room), SV.d (Value.int IntKind.u64 L.first),
 SV.d (Value.int IntKind.u64 L.next), SV.d (Value.int IntKind.i64 L.last), SV.sl 2 4 0 k 0],
 AB.row 36 4 k pg, AB.row 80 15 n (miF f)]))
 (T.ite (decide ((↑n : Int) ≥ 64))
 (T.ret
 (AV.tup [EV.s (SV.c (Value.int IntKind.i64 0)), EV.s (SV.c (Value.int IntKind.i64 2))],
 [AB.cells 72
 [SV.ptr 1 0, SV.sl 3 15 0 n 0, SV.d (Value.int IntKind.i64 id), SV.d (Value.int IntKind.i64 tmo),
 SV.d (Value.int IntKind.i64 now)],
 AB.cells 44
 [SV.d (Value.int IntKind.i64 L.room), SV.d (Value.int IntKind.u64 L.first),
 SV.d (Value.int IntKind.u64 L.next), SV.d (Value.int IntKind.i64 L.last), SV.sl 2 4 0 k 0],
 AB.row 36 4 k pg, AB.row 80 15 n (miF f)]))
 (T.ite (decide ((↑n : Int) > 0))
 (T.need (0 ≤ IntKind.i64.wrap ((↑n : Int) - 1) ∧ IntKind.i64.wrap ((↑n : Int) - 1) < (↑n : Int))
 (T.need (0 + (IntKind.i64.wrap ((↑n : Int) - 1)).toNat < n)
 ((T.need ((closeE (f (0 + (IntKind.i64.wrap ((↑n : Int) - 1)).toNat)) at' == 0) = true)
 (T.need (((n = n ∧ MiRow n (miF f)) ∧ k = k ∧ PkRow k pg) ∧ (rowMi n (miF f)).length ≤ 64)
 (T.need ((openE id at' == 0) = true)
 (T.need
 (some
 (AB.cells 72
 [SV.ptr 1 0,
 SV.sl 6 15 0
 (putM (rowMi n (miF f))
 (closeM (f (0 + (IntKind.i64.wrap ((↑n : Int) - 1)).toNat)) at')).length
 0,
 SV.d (Value.int IntKind.i64 id), SV.d (Value.int IntKind.i64 tmo),
 SV.d (Value.int IntKind.i64 now)]) =
 some
 (AB.cells 72
 [SV.ptr 1 0,
 SV.sl 6 15 0
 (putM (rowMi n (miF f))
 (closeM (f (0 + (IntKind.i64.wrap ((↑n : Int) - 1)).toNat)) at')).length
 0,
 SV.d (Value.int IntKind.i64 id), SV.d (Value.int IntKind.i64 tmo),
 SV.d (Value.int IntKind.i64 now)]))
 (T.need
 (0 +
 (putM (rowMi n (miF f))
 (closeM (f (0 + (IntKind.i64.wrap ((↑n : Int) - 1)).toNat)) at')).length ≤
 (putM (rowMi n (miF f))
 (closeM (f (0 + (IntKind.i64.wrap ((↑n : Int) - 1)).toNat)) at')).length ∧
 1 ≤ 1 ∧
 (putM (rowMi n (miF f))
 (closeM (f (0 + (IntKind.i64.wrap ((↑n : Int) - 1)).toNat)) at')).length +
 1 ≤
 most)
 (T.ret
 (AV.tup
 [EV.s (SV.d (Value.int IntKind.i64 (openM id at').id)),
 EV.s (SV.c (Value.int IntKind.i64 0))],
 [AB.cells 72
 [SV.ptr 1 0,
 SV.sl 9 15 0
 ((putM (rowMi n (miF f))
 (closeM (f (0 + (IntKind.i64.wrap ((↑n : Int) - 1)).toNat)) at')).length +
 1)
 0,
 SV.d (Value.int IntKind.i64 (IntKind.i64.wrap (id + 1))),
 SV.d (Value.int IntKind.i64 tmo), SV.d (Value.int IntKind.i64 at')],
 AB.cells 44
 [SV.d (Value.int IntKind.i64 L.room), SV.d (Value.int IntKind.u64 L.first),
 SV.d (Value.int IntKind.u64 L.next), SV.d (Value.int IntKind.i64 L.last),
 SV.sl 5 4 0 (rowPk k pg).length 0],
 AB.dead, AB.dead,
 AB.cells 80
 [SV.d
 (Value.int IntKind.i64
 (closeM (f (0 + (IntKind.i64.wrap ((↑n : Int) - 1)).toNat)) at').id),
 SV.d
 (Value.int IntKind.i64
 (closeM (f (0 + (IntKind.i64.wrap ((↑n : Int) - 1)).toNat)) at').frm),
 SV.d
 (Value.int IntKind.i64
 (closeM (f (0 + (IntKind.i64.wrap ((↑n : Int) - 1)).toNat)) at').to),
 SV.d
 (Value.int IntKind.i64
 (closeM (f (0 + (IntKind.i64.wrap ((↑n : Int) - 1)).toNat)) at').sent),
 SV.d
 (Value.int IntKind.i64
 (closeM (f (0 + (IntKind.i64.wrap ((↑n : Int) - 1)).toNat)) at').acked),
 SV.d
 (Value.int IntKind.i64
 (closeM (f (0 + (IntKind.i64.wrap ((↑n : Int) - 1)).toNat)) at').lost),
 SV.d
 (Value.int IntKind.i64
 (closeM (f (0 + (IntKind.i64.wrap ((↑n : Int) - 1)).toNat)) at').packets),
 SV.d
 (Value.int IntKind.i64
 (closeM (f (0 + (IntKind.i64.wrap ((↑n : Int) - 1)).toNat)) at').hits),
 SV.d
 (Value.int IntKind.i64
 (closeM (f (0 + (IntKind.i64.wrap ((↑n : Int) - 1)).toNat)) at').drops),
 SV.d
 (Value.int IntKind.i64
 (closeM (f (0 + (IntKind.i64.wrap ((↑n : Int) - 1)).toNat)) at').n),
 SV.d
 (Value.int IntKind.i64
 (closeM (f (0 + (IntKind.i64.wrap ((↑n : Int) - 1)).toNat)) at').sumT),
 SV.d
 (Value.int IntKind.i64
 (closeM (f (0 + (IntKind.i64.wrap ((↑n : Int) - 1)).toNat)) at').sumR),
 SV.d
 (Value.int IntKind.i64
 (closeM (f (0 + (IntKind.i64.wrap ((↑n : Int) - 1)).toNat)) at').sumTT),
 SV.d
 (Value.int IntKind.i64
 (closeM (f (0 + (IntKind.i64.wrap ((↑n : Int) - 1)).toNat)) at').sumTR),
 SV.d
 (Value.int IntKind.i64
 (closeM (f (0 + (IntKind.i64.wrap ((↑n : Int) - 1)).toNat)) at').sumRR)],
 AB.row 36 4 (rowPk k pg).length (pkG (rowPk k pg)), AB.dead,
 AB.cells 80
 [SV.d (Value.int IntKind.i64 (openM id at').id),
 SV.d (Value.int IntKind.i64 (openM id at').frm),
 SV.d (Value.int IntKind.i64 (-1)), SV.d (Value.int IntKind.i64 0),
 SV.d (Value.int IntKind.i64 0), SV.d (Value.int IntKind.i64 0),
 SV.d (Value.int IntKind.i64 0), SV.d (Value.int IntKind.i64 0),
 SV.d (Value.int IntKind.i64 0), SV.d (Value.int IntKind.i64 0),
 SV.d (Value.int IntKind.i64 0), SV.d (Value.int IntKind.i64 0),
 SV.d (Value.int IntKind.i64 0), SV.d (Value.int IntKind.i64 0),
 SV.d (Value.int IntKind.i64 0)],
 AB.lit 80 15
 [[Value.int IntKind.i64 (openM id at').id, Value.int IntKind.i64 (openM id at').frm,
 Value.int IntKind.i64 (-1), Value.int IntKind.i64 0, Value.int IntKind.i64 0,
 Value.int IntKind.i64 0, Value.int IntKind.i64 0, Value.int IntKind.i64 0,
 Value.int IntKind.i64 0, Value.int IntKind.i64 0, Value.int IntKind.i64 0,
 Value.int IntKind.i64 0, Value.int IntKind.i64 0, Value.int IntKind.i64 0,
 Value.int IntKind.i64 0]],
 AB.row 80 15
 ((putM (rowMi n (miF f))
 (closeM (f (0 + (IntKind.i64.wrap ((↑n : Int) - 1)).toNat)) at')).length +
 1)
 (appendG
 (miG
 (putM (rowMi n (miF f))
 (closeM (f (0 + (IntKind.i64.wrap ((↑n : Int) - 1)).toNat)) at')))
 0
 (putM (rowMi n (miF f))
 (closeM (f (0 + (IntKind.i64.wrap ((↑n : Int) - 1)).toNat)) at')).length
 (fun j =>
 (chunksOf 15 1
 [Value.int IntKind.i64 (openM id at').id,
 Value.int IntKind.i64 (openM id at').frm,
 Value.int IntKind.i64 (openM id at').to,
 Value.int IntKind.i64 (openM id at').sent,
 Value.int IntKind.i64 (openM id at').acked,
 Value.int IntKind.i64 (openM id at').lost,
 Value.int IntKind.i64 (openM id at').packets,
 Value.int IntKind.i64 (openM id at').hits,
 Value.int IntKind.i64 (openM id at').drops,
 Value.int IntKind.i64 (openM id at').n,
 Value.int IntKind.i64 (openM id at').sumT,
 Value.int IntKind.i64 (openM id at').sumR,
 Value.int IntKind.i64 (openM id at').sumTT,
 Value.int IntKind.i64 (openM id at').sumTR,
 Value.int IntKind.i64 (openM id at').sumRR]).getD
 j [])
 0)]))))))).both
 (T.need (some (AB.row 80 15 n (miF f)) = some (AB.row 80 15 n (miF f)))
 (T.need
 (some
 (AB.cells 72
 [SV.ptr 1 0, SV.sl 3 15 0 n 0, SV.d (Value.int IntKind.i64 id),
 SV.d (Value.int IntKind.i64 tmo), SV.d (Value.int IntKind.i64 now)]) =
 some
 (AB.cells 72
 [SV.ptr 1 0, SV.sl 3 15 0 n 0, SV.d (Value.int IntKind.i64 id),
 SV.d (Value.int IntKind.i64 tmo), SV.d (Value.int IntKind.i64 now)]))
 (T.need
 (some
 (AB.cells 72
 [SV.ptr 1 0, SV.sl 3 15 0 n 0, SV.d (Value.int IntKind.i64 id),
 SV.d (Value.int IntKind.i64 tmo), SV.d (Value.int IntKind.i64 now)]) =
 some
 (AB.cells 72
 [SV.ptr 1 0, SV.sl 3 15 0 n 0, SV.d (Value.int IntKind.i64 id),
 SV.d (Value.int IntKind.i64 tmo), SV.d (Value.int IntKind.i64 now)]))
 (T.need ((closeE (f (0 + (IntKind.i64.wrap ((↑n : Int) - 1)).toNat)) at' == 0) = true)
 (T.need (((n = n ∧ MiRow n (miF f)) ∧ k = k ∧ PkRow k pg) ∧ (rowMi n (miF f)).length ≤ 64)
 (T.need ((openE id at' == 0) = true)
 (T.need
 (some
 (AB.cells 72
 [SV.ptr 1 0,
 SV.sl 6 15 0
 (putM (rowMi n (miF f))
 (closeM (f (0 + (IntKind.i64.wrap ((↑n : Int) - 1)).toNat)) at')).length
 0,
 SV.d (Value.int IntKind.i64 id), SV.d (Value.int IntKind.i64 tmo),
 SV.d (Value.int IntKind.i64 now)]) =
 some
 (AB.cells 72
 [SV.ptr 1 0,
 SV.sl 6 15 0
 (putM (rowMi n (miF f))
 (closeM (f (0 + (IntKind.i64.wrap ((↑n : Int) - 1)).toNat)) at')).length
 0,
 SV.d (Value.int IntKind.i64 id), SV.d (Value.int IntKind.i64 tmo),
 SV.d (Value.int IntKind.i64 now)]))
 (T.need
 (0 +
 (putM (rowMi n (miF f))
 (closeM (f (0 + (IntKind.i64.wrap ((↑n : Int) - 1)).toNat)) at')).length ≤
 (putM (rowMi n (miF f))
 (closeM (f (0 + (IntKind.i64.wrap ((↑n : Int) - 1)).toNat)) at')).length ∧
 1 ≤ 1 ∧
 (putM (rowMi n (miF f))
 (closeM (f (0 + (IntKind.i64.wrap ((↑n : Int) - 1)).toNat)) at')).length +
 1 ≤
 most)
 (T.ret
 (AV.tup
 [EV.s (SV.d (Value.int IntKind.i64 (openM id at').id)),
 EV.s (SV.c (Value.int IntKind.i64 0))],
 [AB.cells 72
 [SV.ptr 1 0,
 SV.sl 9 15 0
 ((putM (rowMi n (miF f))
 (closeM (f (0 + (IntKind.i64.wrap ((↑n : Int) - 1)).toNat))
 at')).length +
 1)
 0,
 SV.d (Value.int IntKind.i64 (IntKind.i64.wrap (id + 1))),
 SV.d (Value.int IntKind.i64 tmo), SV.d (Value.int IntKind.i64 at')],
 AB.cells 44
 [SV.d (Value.int IntKind.i64 L.room), SV.d (Value.int IntKind.u64 L.first),
 SV.d (Value.int IntKind.u64 L.next), SV.d (Value.int IntKind.i64 L.last),
 SV.sl 5 4 0 (rowPk k pg).length 0],
 AB.dead, AB.dead,
 AB.cells 80
 [SV.d
 (Value.int IntKind.i64
 (closeM (f (0 + (IntKind.i64.wrap ((↑n : Int) - 1)).toNat)) at').id),
 SV.d
 (Value.int IntKind.i64
 (closeM (f (0 + (IntKind.i64.wrap ((↑n : Int) - 1)).toNat)) at').frm),
 SV.d
 (Value.int IntKind.i64
 (closeM (f (0 + (IntKind.i64.wrap ((↑n : Int) - 1)).toNat)) at').to),
 SV.d
 (Value.int IntKind.i64
 (closeM (f (0 + (IntKind.i64.wrap ((↑n : Int) - 1)).toNat)) at').sent),
 SV.d
 (Value.int IntKind.i64
 (closeM (f (0 + (IntKind.i64.wrap ((↑n : Int) - 1)).toNat)) at').acked),
 SV.d
 (Value.int IntKind.i64
 (closeM (f (0 + (IntKind.i64.wrap ((↑n : Int) - 1)).toNat)) at').lost),
 SV.d
 (Value.int IntKind.i64
 (closeM (f (0 + (IntKind.i64.wrap ((↑n : Int) - 1)).toNat)) at').packets),
 SV.d
 (Value.int IntKind.i64
 (closeM (f (0 + (IntKind.i64.wrap ((↑n : Int) - 1)).toNat)) at').hits),
 SV.d
 (Value.int IntKind.i64
 (closeM (f (0 + (IntKind.i64.wrap ((↑n : Int) - 1)).toNat)) at').drops),
 SV.d
 (Value.int IntKind.i64
 (closeM (f (0 + (IntKind.i64.wrap ((↑n : Int) - 1)).toNat)) at').n),
 SV.d
 (Value.int IntKind.i64
 (closeM (f (0 + (IntKind.i64.wrap ((↑n : Int) - 1)).toNat)) at').sumT),
 SV.d
 (Value.int IntKind.i64
 (closeM (f (0 + (IntKind.i64.wrap ((↑n : Int) - 1)).toNat)) at').sumR),
 SV.d
 (Value.int IntKind.i64
 (closeM (f (0 + (IntKind.i64.wrap ((↑n : Int) - 1)).toNat)) at').sumTT),
 SV.d
 (Value.int IntKind.i64
 (closeM (f (0 + (IntKind.i64.wrap ((↑n : Int) - 1)).toNat)) at').sumTR),
 SV.d
 (Value.int IntKind.i64
 (closeM (f (0 + (IntKind.i64.wrap ((↑n : Int) - 1)).toNat)) at').sumRR)],
 AB.row 36 4 (rowPk k pg).length (pkG (rowPk k pg)), AB.dead,
 AB.cells 80
 [SV.d (Value.int IntKind.i64 (openM id at').id),
 SV.d (Value.int IntKind.i64 (openM id at').frm),
 SV.d (Value.int IntKind.i64 (-1)), SV.d (Value.int IntKind.i64 0),
 SV.d (Value.int IntKind.i64 0), SV.d (Value.int IntKind.i64 0),
 SV.d (Value.int IntKind.i64 0), SV.d (Value.int IntKind.i64 0),
 SV.d (Value.int IntKind.i64 0), SV.d (Value.int IntKind.i64 0),
 SV.d (Value.int IntKind.i64 0), SV.d (Value.int IntKind.i64 0),
 SV.d (Value.int IntKind.i64 0), SV.d (Value.int IntKind.i64 0),
 SV.d (Value.int IntKind.i64 0)],
 AB.lit 80 15
 [[Value.int IntKind.i64 (openM id at').id,
 Value.int IntKind.i64 (openM id at').frm, Value.int IntKind.i64 (-1),
 Value.int IntKind.i64 0, Value.int IntKind.i64 0, Value.int IntKind.i64 0,
 Value.int IntKind.i64 0, Value.int IntKind.i64 0, Value.int IntKind.i64 0,
 Value.int IntKind.i64 0, Value.int IntKind.i64 0, Value.int IntKind.i64 0,
 Value.int IntKind.i64 0, Value.int IntKind.i64 0, Value.int IntKind.i64 0]],
 AB.row 80 15
 ((putM (rowMi n (miF f))
 (closeM (f (0 + (IntKind.i64.wrap ((↑n : Int) - 1)).toNat)) at')).length +
 1)
 (appendG
 (miG
 (putM (rowMi n (miF f))
 (closeM (f (0 + (IntKind.i64.wrap ((↑n : Int) - 1)).toNat)) at')))
 0
 (putM (rowMi n (miF f))
 (closeM (f (0 + (IntKind.i64.wrap ((↑n : Int) - 1)).toNat)) at')).length
 (fun j =>
 (chunksOf 15 1
 [Value.int IntKind.i64 (openM id at').id,
 Value.int IntKind.i64 (openM id at').frm,
 Value.int IntKind.i64 (openM id at').to,
 Value.int IntKind.i64 (openM id at').sent,
 Value.int IntKind.i64 (openM id at').acked,
 Value.int IntKind.i64 (openM id at').lost,
 Value.int IntKind.i64 (openM id at').packets,
 Value.int IntKind.i64 (openM id at').hits,
 Value.int IntKind.i64 (openM id at').drops,
 Value.int IntKind.i64 (openM id at').n,
 Value.int IntKind.i64 (openM id at').sumT,
 Value.int IntKind.i64 (openM id at').sumR,
 Value.int IntKind.i64 (openM id at').sumTT,
 Value.int IntKind.i64 (openM id at').sumTR,
 Value.int IntKind.i64 (openM id at').sumRR]).getD
 j [])
 0)])))))))))))))
 (T.need ((openE id at' == 0) = true)
 (T.need
 (some
 (AB.cells 72
 [SV.ptr 1 0, SV.sl 3 15 0 n 0, SV.d (Value.int IntKind.i64 id), SV.d (Value.int IntKind.i64 tmo),
 SV.d (Value.int IntKind.i64 now)]) =
 some
 (AB.cells 72
 [SV.ptr 1 0, SV.sl 3 15 0 n 0, SV.d (Value.int IntKind.i64 id), SV.d (Value.int IntKind.i64 tmo),
 SV.d (Value.int IntKind.i64 now)]))
 (T.need
 (0 + n ≤ n ∧
 1 ≤
 (chunksOf 15 1
 [Value.int IntKind.i64 (openM id at').id, Value.int IntKind.i64 (openM id at').frm,
 Value.int IntKind.i64 (openM id at').to, Value.int IntKind.i64 (openM id at').sent,
 Value.int IntKind.i64 (openM id at').acked, Value.int IntKind.i64 (openM id at').lost,
 Value.int IntKind.i64 (openM id at').packets, Value.int IntKind.i64 (openM id at').hits,
 Value.int IntKind.i64 (openM id at').drops, Value.int IntKind.i64 (openM id at').n,
 Value.int IntKind.i64 (openM id at').sumT, Value.int IntKind.i64 (openM id at').sumR,
 Value.int IntKind.i64 (openM id at').sumTT, Value.int IntKind.i64 (openM id at').sumTR,
 Value.int IntKind.i64 (openM id at').sumRR]).length ∧
 n + 1 ≤ most)
 (T.ret
 (AV.tup
 [EV.s (SV.d (Value.int IntKind.i64 (openM id at').id)), EV.s (SV.c (Value.int IntKind.i64 0))],
 [AB.cells 72
 [SV.ptr 1 0, SV.sl 6 15 0 (n + 1) 0, SV.d (Value.int IntKind.i64 (IntKind.i64.wrap (id + 1))),
 SV.d (Value.int IntKind.i64 tmo), SV.d (Value.int IntKind.i64 at')],
 AB.cells 44
 [SV.d (Value.int IntKind.i64 L.room), SV.d (Value.int IntKind.u64 L.first),
 SV.d (Value.int IntKind.u64 L.next), SV.d (Value.int IntKind.i64 L.last), SV.sl 2 4 0 k 0],
 AB.row 36 4 k pg, AB.dead,
 AB.cells 80
 [SV.d (Value.int IntKind.i64 (openM id at').id),
 SV.d (Value.int IntKind.i64 (openM id at').frm), SV.d (Value.int IntKind.i64 (-1)),
 SV.d (Value.int IntKind.i64 0), SV.d (Value.int IntKind.i64 0),
 SV.d (Value.int IntKind.i64 0), SV.d (Value.int IntKind.i64 0),
 SV.d (Value.int IntKind.i64 0), SV.d (Value.int IntKind.i64 0),
 SV.d (Value.int IntKind.i64 0), SV.d (Value.int IntKind.i64 0),
 SV.d (Value.int IntKind.i64 0), SV.d (Value.int IntKind.i64 0),
 SV.d (Value.int IntKind.i64 0), SV.d (Value.int IntKind.i64 0)],
 AB.lit 80 15
 [[Value.int IntKind.i64 (openM id at').id, Value.int IntKind.i64 (openM id at').frm,
 Value.int IntKind.i64 (-1), Value.int IntKind.i64 0, Value.int IntKind.i64 0,
 Value.int IntKind.i64 0, Value.int IntKind.i64 0, Value.int IntKind.i64 0,
 Value.int IntKind.i64 0, Value.int IntKind.i64 0, Value.int IntKind.i64 0,
 Value.int IntKind.i64 0, Value.int IntKind.i64 0, Value.int IntKind.i64 0,
 Value.int IntKind.i64 0]],
 AB.row 80 15 (n + 1)
 (appendG (miF f) 0 n
 (fun j =>
 (chunksOf 15 1
 [Value.int IntKind.i64 (openM id at').id, Value.int IntKind.i64 (openM id at').frm,
 Value.int IntKind.i64 (openM id at').to, Value.int IntKind.i64 (openM id at').sent,
 Value.int IntKind.i64 (openM id at').acked,
 Value.int IntKind.i64 (openM id at').lost,
 Value.int IntKind.i64 (openM id at').packets,
 Value.int IntKind.i64 (openM id at').hits,
 Value.int IntKind.i64 (openM id at').drops, Value.int IntKind.i64 (openM id at').n,
 Value.int IntKind.i64 (openM id at').sumT,
 Value.int IntKind.i64 (openM id at').sumR,
 Value.int IntKind.i64 (openM id at').sumTT,
 Value.int IntKind.i64 (openM id at').sumTR,
 Value.int IntKind.i64 (openM id at').sumRR]).getD
 j [])
 0)]))))))))
 (T.ret
 (AV.tup [EV.s (SV.c (Value.int IntKind.i64 0)), EV.s (SV.c (Value.int IntKind.i64 10))],
 [AB.cells 72
 [SV.ptr 1 0, SV.sl 3 15 0 n 0, SV.d (Value.int IntKind.i64 id), SV.d (Value.int IntKind.i64 tmo),
 SV.d (Value.int IntKind.i64 now)],
 AB.cells 44
 [SV.d (Value.int IntKind.i64 L.room), SV.d (Value.int IntKind.u64 L.first),
 SV.d (Value.int IntKind.u64 L.next), SV.d (Value.int IntKind.i64 L.last), SV.sl 2 4 0 k 0],
 AB.row 36 4 k pg, AB.row 80 15 n (miF f)])))
 (T.ret
 (AV.tup [EV.s (SV.c (Value.int IntKind.i64 0)), EV.s (SV.c (Value.int IntKind.i64 10))],
 [AB.cells 72
 [SV.ptr 1 0, SV.sl 3 15 0 n 0, SV.d (Value.int IntKind.i64 id), SV.d (Value.int IntKind.i64 tmo),
 SV.d (Value.int IntKind.i64 now)],
 AB.cells 44
 [SV.d (Value.int IntKind.i64 L.room), SV.d (Value.int IntKind.u64 L.first),
 SV.d (Value.int IntKind.u64 L.next), SV.d (Value.int IntKind.i64 L.last), SV.sl 2 4 0 k 0],
 AB.row 36 4 k pg, AB.row 80 15 n (miF f)])) := by kernel_rfl


noncomputable def t51 (L : LSt) (k : Nat) (pg : Nat → List Value) (n : Nat) (f : Nat → Mi) (now id tmo size at' : Int) : T (AV × Heap) := callT Try.prog (entL e51) 4 51 [.e (.s (.ptr 0 0)), .d (.int .i64 size), .d (.int .i64 at')] (rH L k pg n (miF f) now id tmo) fun r H' => .ret (r, H')

theorem t51_eq (L : LSt) (k : Nat) (pg : Nat → List Value) (n : Nat) (f : Nat → Mi) (now id tmo size at' : Int) : t51 L k pg n f now id tmo size at' =
 T.ite (decide (at' ≥ 0))
 (T.ite (decide (at' ≤ 1099511627776))
 (T.ite (decide (at' < now))
 (T.ret
 (AV.tup [EV.s (SV.c (Value.int IntKind.u64 0)), EV.s (SV.c (Value.int IntKind.i64 10))],
 [AB.cells 72
 [SV.ptr 1 0, SV.sl 3 15 0 n 0, SV.d (Value.int IntKind.i64 id), SV.d (Value.int IntKind.i64 tmo),
 SV.d (Value.int IntKind.i64 now)],
 AB.cells 44
 [SV.d (Value.int IntKind.i64 L.room), SV.d (Value.int IntKind.u64 L.first),
 SV.d (Value.int IntKind.u64 L.next), SV.d (Value.int IntKind.i64 L.last), SV.sl 2 4 0 k 0],
 AB.row 36 4 k pg, AB.row 80 15 n (miF f)]))
 (T.ite ((↑n : Int) == 0)
 (T.ret
 (AV.tup [EV.s (SV.c (Value.int IntKind.u64 0)), EV.s (SV.c (Value.int IntKind.i64 15))],
 [AB.cells 72
 [SV.ptr 1 0, SV.sl 3 15 0 n 0, SV.d (Value.int IntKind.i64 id), SV.d (Value.int IntKind.i64 tmo),
 SV.d (Value.int IntKind.i64 now)],
 AB.cells 44
 [SV.d (Value.int IntKind.i64 L.room), SV.d (Value.int IntKind.u64 L.first),
 SV.d (Value.int IntKind.u64 L.next), SV.d (Value.int IntKind.i64 L.last), SV.sl 2 4 0 k 0],
 AB.row 36 4 k pg, AB.row 80 15 n (miF f)]))
 (T.need (0 ≤ IntKind.i64.wrap ((↑n : Int) - 1) ∧ IntKind.i64.wrap ((↑n : Int) - 1) < (↑n : Int))
 (T.need (0 + (IntKind.i64.wrap ((↑n : Int) - 1)).toNat < n)
 ((T.ite (sndE (f (0 + (IntKind.i64.wrap ((↑n : Int) - 1)).toNat)) size == 0)
 (T.need
 ((k = k ∧ PkRow k pg) ∧
 { room := L.room, first := L.first, next := L.next, last := L.last, es := rowPk k pg : LSt }.Ok)
 (T.ite
 (sendE
 { room := L.room, first := L.first, next := L.next, last := L.last, es := rowPk k pg : LSt }
 (sndM (f (0 + (IntKind.i64.wrap ((↑n : Int) - 1)).toNat)) size).id size at' !=
 0)
 (T.ret
 (AV.tup
 [EV.s (SV.c (Value.int IntKind.u64 0)),
 EV.s
 (SV.d
 (Value.int IntKind.i64
 (sendE
 { room := L.room, first := L.first, next := L.next, last := L.last, es := rowPk k pg : LSt }
 (sndM (f (0 + (IntKind.i64.wrap ((↑n : Int) - 1)).toNat)) size).id size at')))],
 [AB.cells 72
 [SV.ptr 1 0, SV.sl 3 15 0 n 0, SV.d (Value.int IntKind.i64 id),
 SV.d (Value.int IntKind.i64 tmo), SV.d (Value.int IntKind.i64 now)],
 AB.cells 44
 [SV.d
 (Value.int IntKind.i64
 (sendL
 { room := L.room, first := L.first, next := L.next, last := L.last, es := rowPk k pg : LSt }
 (sndM (f (0 + (IntKind.i64.wrap ((↑n : Int) - 1)).toNat)) size).id size
 at').room),
 SV.d
 (Value.int IntKind.u64
 (sendL
 { room := L.room, first := L.first, next := L.next, last := L.last, es := rowPk k pg : LSt }
 (sndM (f (0 + (IntKind.i64.wrap ((↑n : Int) - 1)).toNat)) size).id size
 at').first),
 SV.d
 (Value.int IntKind.u64
 (sendL
 { room := L.room, first := L.first, next := L.next, last := L.last, es := rowPk k pg : LSt }
 (sndM (f (0 + (IntKind.i64.wrap ((↑n : Int) - 1)).toNat)) size).id size
 at').next),
 SV.d
 (Value.int IntKind.i64
 (sendL
 { room := L.room, first := L.first, next := L.next, last := L.last, es := rowPk k pg : LSt }
 (sndM (f (0 + (IntKind.i64.wrap ((↑n : Int) - 1)).toNat)) size).id size
 at').last),
 SV.sl 5 4 0
 (sendL
 { room := L.room, first := L.first, next := L.next, last := L.last, es := rowPk k pg : LSt }
 (sndM (f (0 + (IntKind.i64.wrap ((↑n : Int) - 1)).toNat)) size).id size
 at').es.length
 0],
 AB.dead, AB.row 80 15 n (miF f),
 AB.cells 80
 [SV.d
 (Value.int IntKind.i64
 (sndM (f (0 + (IntKind.i64.wrap ((↑n : Int) - 1)).toNat)) size).id),
 SV.d
 (Value.int IntKind.i64
 (sndM (f (0 + (IntKind.i64.wrap ((↑n : Int) - 1)).toNat)) size).frm),
 SV.d
 (Value.int IntKind.i64
 (sndM (f (0 + (IntKind.i64.wrap ((↑n : Int) - 1)).toNat)) size).to),
 SV.d
 (Value.int IntKind.i64
 (sndM (f (0 + (IntKind.i64.wrap ((↑n : Int) - 1)).toNat)) size).sent),
 SV.d
 (Value.int IntKind.i64
 (sndM (f (0 + (IntKind.i64.wrap ((↑n : Int) - 1)).toNat)) size).acked),
 SV.d
 (Value.int IntKind.i64
 (sndM (f (0 + (IntKind.i64.wrap ((↑n : Int) - 1)).toNat)) size).lost),
 SV.d
 (Value.int IntKind.i64
 (sndM (f (0 + (IntKind.i64.wrap ((↑n : Int) - 1)).toNat)) size).packets),
 SV.d
 (Value.int IntKind.i64
 (sndM (f (0 + (IntKind.i64.wrap ((↑n : Int) - 1)).toNat)) size).hits),
 SV.d
 (Value.int IntKind.i64
 (sndM (f (0 + (IntKind.i64.wrap ((↑n : Int) - 1)).toNat)) size).drops),
 SV.d
 (Value.int IntKind.i64
 (sndM (f (0 + (IntKind.i64.wrap ((↑n : Int) - 1)).toNat)) size).n),
 SV.d
 (Value.int IntKind.i64
 (sndM (f (0 + (IntKind.i64.wrap ((↑n : Int) - 1)).toNat)) size).sumT),
 SV.d
 (Value.int IntKind.i64
 (sndM (f (0 + (IntKind.i64.wrap ((↑n : Int) - 1)).toNat)) size).sumR),
 SV.d
 (Value.int IntKind.i64
 (sndM (f (0 + (IntKind.i64.wrap ((↑n : Int) - 1)).toNat)) size).sumTT),
 SV.d
 (Value.int IntKind.i64
 (sndM (f (0 + (IntKind.i64.wrap ((↑n : Int) - 1)).toNat)) size).sumTR),
 SV.d
 (Value.int IntKind.i64
 (sndM (f (0 + (IntKind.i64.wrap ((↑n : Int) - 1)).toNat)) size).sumRR)],
 AB.row 36 4
 (sendL
 { room := L.room, first := L.first, next := L.next, last := L.last, es := rowPk k pg : LSt }
 (sndM (f (0 + (IntKind.i64.wrap ((↑n : Int) - 1)).toNat)) size).id size
 at').es.length
 (pkG
 (sendL
 { room := L.room, first := L.first, next := L.next, last := L.last, es := rowPk k pg : LSt }
 (sndM (f (0 + (IntKind.i64.wrap ((↑n : Int) - 1)).toNat)) size).id size at').es)]))
 (T.need
 (((n = n ∧ MiRow n (miF f)) ∧
 (sendL
 { room := L.room, first := L.first, next := L.next, last := L.last, es := rowPk k pg : LSt }
 (sndM (f (0 + (IntKind.i64.wrap ((↑n : Int) - 1)).toNat)) size).id size
 at').es.length =
 (sendL
 { room := L.room, first := L.first, next := L.next, last := L.last, es := rowPk k pg : LSt }
 (sndM (f (0 + (IntKind.i64.wrap ((↑n : Int) - 1)).toNat)) size).id size
 at').es.length ∧
 PkRow
 (sendL
 { room := L.room, first := L.first, next := L.next, last := L.last, es := rowPk k pg : LSt }
 (sndM (f (0 + (IntKind.i64.wrap ((↑n : Int) - 1)).toNat)) size).id size
 at').es.length
 (pkG
 (sendL
 { room := L.room, first := L.first, next := L.next, last := L.last, es := rowPk k pg : LSt }
 (sndM (f (0 + (IntKind.i64.wrap ((↑n : Int) - 1)).toNat)) size).id size
 at').es)) ∧
 (rowMi n (miF f)).length ≤ 64)
 (T.ret
 (AV.tup
 [EV.s
 (SV.d
 (Value.int IntKind.u64
 (sendN
 { room := L.room, first := L.first, next := L.next, last := L.last, es := rowPk k pg : LSt }
 (sndM (f (0 + (IntKind.i64.wrap ((↑n : Int) - 1)).toNat)) size).id size at'))),
 EV.s (SV.c (Value.int IntKind.i64 0))],
 [AB.cells 72
 [SV.ptr 1 0,
 SV.sl 7 15 0
 (putM (rowMi n (miF f))
 (sndM (f (0 + (IntKind.i64.wrap ((↑n : Int) - 1)).toNat)) size)).length
 0,
 SV.d (Value.int IntKind.i64 id), SV.d (Value.int IntKind.i64 tmo),
 SV.d (Value.int IntKind.i64 at')],
 AB.cells 44
 [SV.d
 (Value.int IntKind.i64
 (sendL
 { room := L.room, first := L.first, next := L.next, last := L.last, es := rowPk k pg : LSt }
 (sndM (f (0 + (IntKind.i64.wrap ((↑n : Int) - 1)).toNat)) size).id size
 at').room),
 SV.d
 (Value.int IntKind.u64
 (sendL
 { room := L.room, first := L.first, next := L.next, last := L.last, es := rowPk k pg : LSt }
 (sndM (f (0 + (IntKind.i64.wrap ((↑n : Int) - 1)).toNat)) size).id size
 at').first),
 SV.d
 (Value.int IntKind.u64
 (sendL
 { room := L.room, first := L.first, next := L.next, last := L.last, es := rowPk k pg : LSt }
 (sndM (f (0 + (IntKind.i64.wrap ((↑n : Int) - 1)).toNat)) size).id size
 at').next),
 SV.d
 (Value.int IntKind.i64
 (sendL
 { room := L.room, first := L.first, next := L.next, last := L.last, es := rowPk k pg : LSt }
 (sndM (f (0 + (IntKind.i64.wrap ((↑n : Int) - 1)).toNat)) size).id size
 at').last),
 SV.sl 6 4 0
 (rowPk
 (sendL
 { room := L.room, first := L.first, next := L.next, last := L.last, es := rowPk k pg : LSt }
 (sndM (f (0 + (IntKind.i64.wrap ((↑n : Int) - 1)).toNat)) size).id size
 at').es.length
 (pkG
 (sendL
 { room := L.room, first := L.first, next := L.next, last := L.last, es := rowPk k pg : LSt }
 (sndM (f (0 + (IntKind.i64.wrap ((↑n : Int) - 1)).toNat)) size).id size
 at').es)).length
 0],
 AB.dead, AB.dead,
 AB.cells 80
 [SV.d
 (Value.int IntKind.i64
 (sndM (f (0 + (IntKind.i64.wrap ((↑n : Int) - 1)).toNat)) size).id),
 SV.d
 (Value.int IntKind.i64
 (sndM (f (0 + (IntKind.i64.wrap ((↑n : Int) - 1)).toNat)) size).frm),
 SV.d
 (Value.int IntKind.i64
 (sndM (f (0 + (IntKind.i64.wrap ((↑n : Int) - 1)).toNat)) size).to),
 SV.d
 (Value.int IntKind.i64
 (sndM (f (0 + (IntKind.i64.wrap ((↑n : Int) - 1)).toNat)) size).sent),
 SV.d
 (Value.int IntKind.i64
 (sndM (f (0 + (IntKind.i64.wrap ((↑n : Int) - 1)).toNat)) size).acked),
 SV.d
 (Value.int IntKind.i64
 (sndM (f (0 + (IntKind.i64.wrap ((↑n : Int) - 1)).toNat)) size).lost),
 SV.d
 (Value.int IntKind.i64
 (sndM (f (0 + (IntKind.i64.wrap ((↑n : Int) - 1)).toNat)) size).packets),
 SV.d
 (Value.int IntKind.i64
 (sndM (f (0 + (IntKind.i64.wrap ((↑n : Int) - 1)).toNat)) size).hits),
 SV.d
 (Value.int IntKind.i64
 (sndM (f (0 + (IntKind.i64.wrap ((↑n : Int) - 1)).toNat)) size).drops),
 SV.d
 (Value.int IntKind.i64
 (sndM (f (0 + (IntKind.i64.wrap ((↑n : Int) - 1)).toNat)) size).n),
 SV.d
 (Value.int IntKind.i64
 (sndM (f (0 + (IntKind.i64.wrap ((↑n : Int) - 1)).toNat)) size).sumT),
 SV.d
 (Value.int IntKind.i64
 (sndM (f (0 + (IntKind.i64.wrap ((↑n : Int) - 1)).toNat)) size).sumR),
 SV.d
 (Value.int IntKind.i64
 (sndM (f (0 + (IntKind.i64.wrap ((↑n : Int) - 1)).toNat)) size).sumTT),
 SV.d
 (Value.int IntKind.i64
 (sndM (f (0 + (IntKind.i64.wrap ((↑n : Int) - 1)).toNat)) size).sumTR),
 SV.d
 (Value.int IntKind.i64
 (sndM (f (0 + (IntKind.i64.wrap ((↑n : Int) - 1)).toNat)) size).sumRR)],
 AB.dead,
 AB.row 36 4
 (rowPk
 (sendL
 { room := L.room, first := L.first, next := L.next, last := L.last, es := rowPk k pg : LSt }
 (sndM (f (0 + (IntKind.i64.wrap ((↑n : Int) - 1)).toNat)) size).id size
 at').es.length
 (pkG
 (sendL
 { room := L.room, first := L.first, next := L.next, last := L.last, es := rowPk k pg : LSt }
 (sndM (f (0 + (IntKind.i64.wrap ((↑n : Int) - 1)).toNat)) size).id size
 at').es)).length
 (pkG
 (rowPk
 (sendL
 { room := L.room, first := L.first, next := L.next, last := L.last, es := rowPk k pg : LSt }
 (sndM (f (0 + (IntKind.i64.wrap ((↑n : Int) - 1)).toNat)) size).id size
 at').es.length
 (pkG
 (sendL
 { room := L.room, first := L.first, next := L.next, last := L.last, es := rowPk k pg : LSt }
 (sndM (f (0 + (IntKind.i64.wrap ((↑n : Int) - 1)).toNat)) size).id size
 at').es))),
 AB.row 80 15
 (putM (rowMi n (miF f))
 (sndM (f (0 + (IntKind.i64.wrap ((↑n : Int) - 1)).toNat)) size)).length
 (miG
 (putM (rowMi n (miF f))
 (sndM (f (0 + (IntKind.i64.wrap ((↑n : Int) - 1)).toNat)) size)))])))))
 (T.ite (sndE (f (0 + (IntKind.i64.wrap ((↑n : Int) - 1)).toNat)) size != 0)
 (T.ret
 (AV.tup
 [EV.s (SV.c (Value.int IntKind.u64 0)),
 EV.s
 (SV.d
 (Value.int IntKind.i64
 (sndE (f (0 + (IntKind.i64.wrap ((↑n : Int) - 1)).toNat)) size)))],
 [AB.cells 72
 [SV.ptr 1 0, SV.sl 3 15 0 n 0, SV.d (Value.int IntKind.i64 id),
 SV.d (Value.int IntKind.i64 tmo), SV.d (Value.int IntKind.i64 now)],
 AB.cells 44
 [SV.d (Value.int IntKind.i64 L.room), SV.d (Value.int IntKind.u64 L.first),
 SV.d (Value.int IntKind.u64 L.next), SV.d (Value.int IntKind.i64 L.last),
 SV.sl 2 4 0 k 0],
 AB.row 36 4 k pg, AB.row 80 15 n (miF f)]))
 (T.need
 ((k = k ∧ PkRow k pg) ∧
 { room := L.room, first := L.first, next := L.next, last := L.last, es := rowPk k pg : LSt }.Ok)
 (T.ite
 (sendE
 { room := L.room, first := L.first, next := L.next, last := L.last, es := rowPk k pg : LSt }
 Mi.zero.id size at' !=
 0)
 (T.ret
 (AV.tup
 [EV.s (SV.c (Value.int IntKind.u64 0)),
 EV.s
 (SV.d
 (Value.int IntKind.i64
 (sendE
 { room := L.room, first := L.first, next := L.next, last := L.last, es := rowPk k pg : LSt }
 Mi.zero.id size at')))],
 [AB.cells 72
 [SV.ptr 1 0, SV.sl 3 15 0 n 0, SV.d (Value.int IntKind.i64 id),
 SV.d (Value.int IntKind.i64 tmo), SV.d (Value.int IntKind.i64 now)],
 AB.cells 44
 [SV.d
 (Value.int IntKind.i64
 (sendL
 { room := L.room, first := L.first, next := L.next, last := L.last, es := rowPk k pg : LSt }
 Mi.zero.id size at').room),
 SV.d
 (Value.int IntKind.u64
 (sendL
 { room := L.room, first := L.first, next := L.next, last := L.last, es := rowPk k pg : LSt }
 Mi.zero.id size at').first),
 SV.d
 (Value.int IntKind.u64
 (sendL
 { room := L.room, first := L.first, next := L.next, last := L.last, es := rowPk k pg : LSt }
 Mi.zero.id size at').next),
 SV.d
 (Value.int IntKind.i64
 (sendL
 { room := L.room, first := L.first, next := L.next, last := L.last, es := rowPk k pg : LSt }
 Mi.zero.id size at').last),
 SV.sl 5 4 0
 (sendL
 { room := L.room, first := L.first, next := L.next, last := L.last, es := rowPk k pg : LSt }
 Mi.zero.id size at').es.length
 0],
 AB.dead, AB.row 80 15 n (miF f),
 AB.cells 80
 [SV.d (Value.int IntKind.i64 0), SV.d (Value.int IntKind.i64 0),
 SV.d (Value.int IntKind.i64 0), SV.d (Value.int IntKind.i64 0),
 SV.d (Value.int IntKind.i64 0), SV.d (Value.int IntKind.i64 0),
 SV.d (Value.int IntKind.i64 0), SV.d (Value.int IntKind.i64 0),
 SV.d (Value.int IntKind.i64 0), SV.d (Value.int IntKind.i64 0),
 SV.d (Value.int IntKind.i64 0), SV.d (Value.int IntKind.i64 0),
 SV.d (Value.int IntKind.i64 0), SV.d (Value.int IntKind.i64 0),
 SV.d (Value.int IntKind.i64 0)],
 AB.row 36 4
 (sendL
 { room := L.room, first := L.first, next := L.next, last := L.last, es := rowPk k pg : LSt }
 Mi.zero.id size at').es.length
 (pkG
 (sendL
 { room := L.room, first := L.first, next := L.next, last := L.last, es := rowPk k pg : LSt }
 Mi.zero.id size at').es)]))
 (T.need
 (((n = n ∧ MiRow n (miF f)) ∧
 (sendL
 { room := L.room, first := L.first, next := L.next, last := L.last, es := rowPk k pg : LSt }
 Mi.zero.id size at').es.length =
 (sendL
 { room := L.room, first := L.first, next := L.next, last := L.last, es := rowPk k pg : LSt }
 Mi.zero.id size at').es.length ∧
 PkRow
 (sendL
 { room := L.room, first := L.first, next := L.next, last := L.last, es := rowPk k pg : LSt }
 Mi.zero.id size at').es.length
 (pkG
 (sendL
 { room := L.room, first := L.first, next := L.next, last := L.last, es := rowPk k pg : LSt }
 Mi.zero.id size at').es)) ∧
 (rowMi n (miF f)).length ≤ 64)
 (T.ret
 (AV.tup
 [EV.s
 (SV.d
 (Value.int IntKind.u64
 (sendN
 { room := L.room, first := L.first, next := L.next, last := L.last, es := rowPk k pg : LSt }
 Mi.zero.id size at'))),
 EV.s (SV.c (Value.int IntKind.i64 0))],
 [AB.cells 72
 [SV.ptr 1 0, SV.sl 7 15 0 (putM (rowMi n (miF f)) Mi.zero).length 0,
 SV.d (Value.int IntKind.i64 id), SV.d (Value.int IntKind.i64 tmo),
 SV.d (Value.int IntKind.i64 at')],
 AB.cells 44
 [SV.d
 (Value.int IntKind.i64
 (sendL
 { room := L.room, first := L.first, next := L.next, last := L.last, es := rowPk k pg : LSt }
 Mi.zero.id size at').room),
 SV.d
 (Value.int IntKind.u64
 (sendL
 { room := L.room, first := L.first, next := L.next, last := L.last, es := rowPk k pg : LSt }
 Mi.zero.id size at').first),
 SV.d
 (Value.int IntKind.u64
 (sendL
 { room := L.room, first := L.first, next := L.next, last := L.last, es := rowPk k pg : LSt }
 Mi.zero.id size at').next),
 SV.d
 (Value.int IntKind.i64
 (sendL
 { room := L.room, first := L.first, next := L.next, last := L.last, es := rowPk k pg : LSt }
 Mi.zero.id size at').last),
 SV.sl 6 4 0
 (rowPk
 (sendL
 { room := L.room, first := L.first, next := L.next, last := L.last, es := rowPk k pg : LSt }
 Mi.zero.id size at').es.length
 (pkG
 (sendL
 { room := L.room, first := L.first, next := L.next, last := L.last, es := rowPk k pg : LSt }
 Mi.zero.id size at').es)).length
 0],
 AB.dead, AB.dead,
 AB.cells 80
 [SV.d (Value.int IntKind.i64 0), SV.d (Value.int IntKind.i64 0),
 SV.d (Value.int IntKind.i64 0), SV.d (Value.int IntKind.i64 0),
 SV.d (Value.int IntKind.i64 0), SV.d (Value.int IntKind.i64 0),
 SV.d (Value.int IntKind.i64 0), SV.d (Value.int IntKind.i64 0),
 SV.d (Value.int IntKind.i64 0), SV.d (Value.int IntKind.i64 0),
 SV.d (Value.int IntKind.i64 0), SV.d (Value.int IntKind.i64 0),
 SV.d (Value.int IntKind.i64 0), SV.d (Value.int IntKind.i64 0),
 SV.d (Value.int IntKind.i64 0)],
 AB.dead,
 AB.row 36 4
 (rowPk
 (sendL
 { room := L.room, first := L.first, next := L.next, last := L.last, es := rowPk k pg : LSt }
 Mi.zero.id size at').es.length
 (pkG
 (sendL
 { room := L.room, first := L.first, next := L.next, last := L.last, es := rowPk k pg : LSt }
 Mi.zero.id size at').es)).length
 (pkG
 (rowPk
 (sendL
 { room := L.room, first := L.first, next := L.next, last := L.last, es := rowPk k pg : LSt }
 Mi.zero.id size at').es.length
 (pkG
 (sendL
 { room := L.room, first := L.first, next := L.next, last := L.last, es := rowPk k pg : LSt }
 Mi.zero.id size at').es))),
 AB.row 80 15 (putM (rowMi n (miF f)) Mi.zero).length
 (miG (putM (rowMi n (miF f)) Mi.zero))]))))))).both
 (T.need (some (AB.row 80 15 n (miF f)) = some (AB.row 80 15 n (miF f)))
 (T.need
 (some
 (AB.cells 72
 [SV.ptr 1 0, SV.sl 3 15 0 n 0, SV.d (Value.int IntKind.i64 id),
 SV.d (Value.int IntKind.i64 tmo), SV.d (Value.int IntKind.i64 now)]) =
 some
 (AB.cells 72
 [SV.ptr 1 0, SV.sl 3 15 0 n 0, SV.d (Value.int IntKind.i64 id),
 SV.d (Value.int IntKind.i64 tmo), SV.d (Value.int IntKind.i64 now)]))
 (T.need
 (some
 (AB.cells 72
 [SV.ptr 1 0, SV.sl 3 15 0 n 0, SV.d (Value.int IntKind.i64 id),
 SV.d (Value.int IntKind.i64 tmo), SV.d (Value.int IntKind.i64 now)]) =
 some
 (AB.cells 72
 [SV.ptr 1 0, SV.sl 3 15 0 n 0, SV.d (Value.int IntKind.i64 id),
 SV.d (Value.int IntKind.i64 tmo), SV.d (Value.int IntKind.i64 now)]))
 (T.ite (sndE (f (0 + (IntKind.i64.wrap ((↑n : Int) - 1)).toNat)) size == 0)
 (T.need
 ((k = k ∧ PkRow k pg) ∧
 { room := L.room, first := L.first, next := L.next, last := L.last, es := rowPk k pg : LSt }.Ok)
 (T.ite
 (sendE
 { room := L.room, first := L.first, next := L.next, last := L.last, es := rowPk k pg : LSt }
 (sndM (f (0 + (IntKind.i64.wrap ((↑n : Int) - 1)).toNat)) size).id size at' !=
 0)
 (T.ret
 (AV.tup
 [EV.s (SV.c (Value.int IntKind.u64 0)),
 EV.s
 (SV.d
 (Value.int IntKind.i64
 (sendE
 { room := L.room, first := L.first, next := L.next, last := L.last, es := rowPk k pg : LSt }
 (sndM (f (0 + (IntKind.i64.wrap ((↑n : Int) - 1)).toNat)) size).id size
 at')))],
 [AB.cells 72
 [SV.ptr 1 0, SV.sl 3 15 0 n 0, SV.d (Value.int IntKind.i64 id),
 SV.d (Value.int IntKind.i64 tmo), SV.d (Value.int IntKind.i64 now)],
 AB.cells 44
 [SV.d
 (Value.int IntKind.i64
 (sendL
 { room := L.room, first := L.first, next := L.next, last := L.last, es := rowPk k pg : LSt }
 (sndM (f (0 + (IntKind.i64.wrap ((↑n : Int) - 1)).toNat)) size).id size
 at').room),
 SV.d
 (Value.int IntKind.u64
 (sendL
 { room := L.room, first := L.first, next := L.next, last := L.last, es := rowPk k pg : LSt }
 (sndM (f (0 + (IntKind.i64.wrap ((↑n : Int) - 1)).toNat)) size).id size
 at').first),
 SV.d
 (Value.int IntKind.u64
 (sendL
 { room := L.room, first := L.first, next := L.next, last := L.last, es := rowPk k pg : LSt }
 (sndM (f (0 + (IntKind.i64.wrap ((↑n : Int) - 1)).toNat)) size).id size
 at').next),
 SV.d
 (Value.int IntKind.i64
 (sendL
 { room := L.room, first := L.first, next := L.next, last := L.last, es := rowPk k pg : LSt }
 (sndM (f (0 + (IntKind.i64.wrap ((↑n : Int) - 1)).toNat)) size).id size
 at').last),
 SV.sl 5 4 0
 (sendL
 { room := L.room, first := L.first, next := L.next, last := L.last, es := rowPk k pg : LSt }
 (sndM (f (0 + (IntKind.i64.wrap ((↑n : Int) - 1)).toNat)) size).id size
 at').es.length
 0],
 AB.dead, AB.row 80 15 n (miF f),
 AB.cells 80
 [SV.d
 (Value.int IntKind.i64
 (sndM (f (0 + (IntKind.i64.wrap ((↑n : Int) - 1)).toNat)) size).id),
 SV.d
 (Value.int IntKind.i64
 (sndM (f (0 + (IntKind.i64.wrap ((↑n : Int) - 1)).toNat)) size).frm),
 SV.d
 (Value.int IntKind.i64
 (sndM (f (0 + (IntKind.i64.wrap ((↑n : Int) - 1)).toNat)) size).to),
 SV.d
 (Value.int IntKind.i64
 (sndM (f (0 + (IntKind.i64.wrap ((↑n : Int) - 1)).toNat)) size).sent),
 SV.d
 (Value.int IntKind.i64
 (sndM (f (0 + (IntKind.i64.wrap ((↑n : Int) - 1)).toNat)) size).acked),
 SV.d
 (Value.int IntKind.i64
 (sndM (f (0 + (IntKind.i64.wrap ((↑n : Int) - 1)).toNat)) size).lost),
 SV.d
 (Value.int IntKind.i64
 (sndM (f (0 + (IntKind.i64.wrap ((↑n : Int) - 1)).toNat)) size).packets),
 SV.d
 (Value.int IntKind.i64
 (sndM (f (0 + (IntKind.i64.wrap ((↑n : Int) - 1)).toNat)) size).hits),
 SV.d
 (Value.int IntKind.i64
 (sndM (f (0 + (IntKind.i64.wrap ((↑n : Int) - 1)).toNat)) size).drops),
 SV.d
 (Value.int IntKind.i64
 (sndM (f (0 + (IntKind.i64.wrap ((↑n : Int) - 1)).toNat)) size).n),
 SV.d
 (Value.int IntKind.i64
 (sndM (f (0 + (IntKind.i64.wrap ((↑n : Int) - 1)).toNat)) size).sumT),
 SV.d
 (Value.int IntKind.i64
 (sndM (f (0 + (IntKind.i64.wrap ((↑n : Int) - 1)).toNat)) size).sumR),
 SV.d
 (Value.int IntKind.i64
 (sndM (f (0 + (IntKind.i64.wrap ((↑n : Int) - 1)).toNat)) size).sumTT),
 SV.d
 (Value.int IntKind.i64
 (sndM (f (0 + (IntKind.i64.wrap ((↑n : Int) - 1)).toNat)) size).sumTR),
 SV.d
 (Value.int IntKind.i64
 (sndM (f (0 + (IntKind.i64.wrap ((↑n : Int) - 1)).toNat)) size).sumRR)],
 AB.row 36 4
 (sendL
 { room := L.room, first := L.first, next := L.next, last := L.last, es := rowPk k pg : LSt }
 (sndM (f (0 + (IntKind.i64.wrap ((↑n : Int) - 1)).toNat)) size).id size
 at').es.length
 (pkG
 (sendL
 { room := L.room, first := L.first, next := L.next, last := L.last, es := rowPk k pg : LSt }
 (sndM (f (0 + (IntKind.i64.wrap ((↑n : Int) - 1)).toNat)) size).id size
 at').es)]))
 (T.need
 (((n = n ∧ MiRow n (miF f)) ∧
 (sendL
 { room := L.room, first := L.first, next := L.next, last := L.last, es := rowPk k pg : LSt }
 (sndM (f (0 + (IntKind.i64.wrap ((↑n : Int) - 1)).toNat)) size).id size
 at').es.length =
 (sendL
 { room := L.room, first := L.first, next := L.next, last := L.last, es := rowPk k pg : LSt }
 (sndM (f (0 + (IntKind.i64.wrap ((↑n : Int) - 1)).toNat)) size).id size
 at').es.length ∧
 PkRow
 (sendL
 { room := L.room, first := L.first, next := L.next, last := L.last, es := rowPk k pg : LSt }
 (sndM (f (0 + (IntKind.i64.wrap ((↑n : Int) - 1)).toNat)) size).id size
 at').es.length
 (pkG
 (sendL
 { room := L.room, first := L.first, next := L.next, last := L.last, es := rowPk k pg : LSt }
 (sndM (f (0 + (IntKind.i64.wrap ((↑n : Int) - 1)).toNat)) size).id size
 at').es)) ∧
 (rowMi n (miF f)).length ≤ 64)
 (T.ret
 (AV.tup
 [EV.s
 (SV.d
 (Value.int IntKind.u64
 (sendN
 { room := L.room, first := L.first, next := L.next, last := L.last, es := rowPk k pg : LSt }
 (sndM (f (0 + (IntKind.i64.wrap ((↑n : Int) - 1)).toNat)) size).id size
 at'))),
 EV.s (SV.c (Value.int IntKind.i64 0))],
 [AB.cells 72
 [SV.ptr 1 0,
 SV.sl 7 15 0
 (putM (rowMi n (miF f))
 (sndM (f (0 + (IntKind.i64.wrap ((↑n : Int) - 1)).toNat)) size)).length
 0,
 SV.d (Value.int IntKind.i64 id), SV.d (Value.int IntKind.i64 tmo),
 SV.d (Value.int IntKind.i64 at')],
 AB.cells 44
 [SV.d
 (Value.int IntKind.i64
 (sendL
 { room := L.room, first := L.first, next := L.next, last := L.last, es := rowPk k pg : LSt }
 (sndM (f (0 + (IntKind.i64.wrap ((↑n : Int) - 1)).toNat)) size).id size
 at').room),
 SV.d
 (Value.int IntKind.u64
 (sendL
 { room := L.room, first := L.first, next := L.next, last := L.last, es := rowPk k pg : LSt }
 (sndM (f (0 + (IntKind.i64.wrap ((↑n : Int) - 1)).toNat)) size).id size
 at').first),
 SV.d
 (Value.int IntKind.u64
 (sendL
 { room := L.room, first := L.first, next := L.next, last := L.last, es := rowPk k pg : LSt }
 (sndM (f (0 + (IntKind.i64.wrap ((↑n : Int) - 1)).toNat)) size).id size
 at').next),
 SV.d
 (Value.int IntKind.i64
 (sendL
 { room := L.room, first := L.first, next := L.next, last := L.last, es := rowPk k pg : LSt }
 (sndM (f (0 + (IntKind.i64.wrap ((↑n : Int) - 1)).toNat)) size).id size
 at').last),
 SV.sl 6 4 0
 (rowPk
 (sendL
 { room := L.room, first := L.first, next := L.next, last := L.last, es := rowPk k pg : LSt }
 (sndM (f (0 + (IntKind.i64.wrap ((↑n : Int) - 1)).toNat)) size).id
 size at').es.length
 (pkG
 (sendL
 { room := L.room, first := L.first, next := L.next, last := L.last, es := rowPk k pg : LSt }
 (sndM (f (0 + (IntKind.i64.wrap ((↑n : Int) - 1)).toNat)) size).id
 size at').es)).length
 0],
 AB.dead, AB.dead,
 AB.cells 80
 [SV.d
 (Value.int IntKind.i64
 (sndM (f (0 + (IntKind.i64.wrap ((↑n : Int) - 1)).toNat)) size).id),
 SV.d
 (Value.int IntKind.i64
 (sndM (f (0 + (IntKind.i64.wrap ((↑n : Int) - 1)).toNat)) size).frm),
 SV.d
 (Value.int IntKind.i64
 (sndM (f (0 + (IntKind.i64.wrap ((↑n : Int) - 1)).toNat)) size).to),
 SV.d
 (Value.int IntKind.i64
 (sndM (f (0 + (IntKind.i64.wrap ((↑n : Int) - 1)).toNat)) size).sent),
 SV.d
 (Value.int IntKind.i64
 (sndM (f (0 + (IntKind.i64.wrap ((↑n : Int) - 1)).toNat)) size).acked),
 SV.d
 (Value.int IntKind.i64
 (sndM (f (0 + (IntKind.i64.wrap ((↑n : Int) - 1)).toNat)) size).lost),
 SV.d
 (Value.int IntKind.i64
 (sndM (f (0 + (IntKind.i64.wrap ((↑n : Int) - 1)).toNat)) size).packets),
 SV.d
 (Value.int IntKind.i64
 (sndM (f (0 + (IntKind.i64.wrap ((↑n : Int) - 1)).toNat)) size).hits),
 SV.d
 (Value.int IntKind.i64
 (sndM (f (0 + (IntKind.i64.wrap ((↑n : Int) - 1)).toNat)) size).drops),
 SV.d
 (Value.int IntKind.i64
 (sndM (f (0 + (IntKind.i64.wrap ((↑n : Int) - 1)).toNat)) size).n),
 SV.d
 (Value.int IntKind.i64
 (sndM (f (0 + (IntKind.i64.wrap ((↑n : Int) - 1)).toNat)) size).sumT),
 SV.d
 (Value.int IntKind.i64
 (sndM (f (0 + (IntKind.i64.wrap ((↑n : Int) - 1)).toNat)) size).sumR),
 SV.d
 (Value.int IntKind.i64
 (sndM (f (0 + (IntKind.i64.wrap ((↑n : Int) - 1)).toNat)) size).sumTT),
 SV.d
 (Value.int IntKind.i64
 (sndM (f (0 + (IntKind.i64.wrap ((↑n : Int) - 1)).toNat)) size).sumTR),
 SV.d
 (Value.int IntKind.i64
 (sndM (f (0 + (IntKind.i64.wrap ((↑n : Int) - 1)).toNat)) size).sumRR)],
 AB.dead,
 AB.row 36 4
 (rowPk
 (sendL
 { room := L.room, first := L.first, next := L.next, last := L.last, es := rowPk k pg : LSt }
 (sndM (f (0 + (IntKind.i64.wrap ((↑n : Int) - 1)).toNat)) size).id size
 at').es.length
 (pkG
 (sendL
 { room := L.room, first := L.first, next := L.next, last := L.last, es := rowPk k pg : LSt }
 (sndM (f (0 + (IntKind.i64.wrap ((↑n : Int) - 1)).toNat)) size).id size
 at').es)).length
 (pkG
 (rowPk
 (sendL
 { room := L.room, first := L.first, next := L.next, last := L.last, es := rowPk k pg : LSt }
 (sndM (f (0 + (IntKind.i64.wrap ((↑n : Int) - 1)).toNat)) size).id size
 at').es.length
 (pkG
 (sendL
 { room := L.room, first := L.first, next := L.next, last := L.last, es := rowPk k pg : LSt }
 (sndM (f (0 + (IntKind.i64.wrap ((↑n : Int) - 1)).toNat)) size).id size
 at').es))),
 AB.row 80 15
 (putM (rowMi n (miF f))
 (sndM (f (0 + (IntKind.i64.wrap ((↑n : Int) - 1)).toNat)) size)).length
 (miG
 (putM (rowMi n (miF f))
 (sndM (f (0 + (IntKind.i64.wrap ((↑n : Int) - 1)).toNat)) size)))])))))
 (T.ite (sndE (f (0 + (IntKind.i64.wrap ((↑n : Int) - 1)).toNat)) size != 0)
 (T.ret
 (AV.tup
 [EV.s (SV.c (Value.int IntKind.u64 0)),
 EV.s
 (SV.d
 (Value.int IntKind.i64
 (sndE (f (0 + (IntKind.i64.wrap ((↑n : Int) - 1)).toNat)) size)))],
 [AB.cells 72
 [SV.ptr 1 0, SV.sl 3 15 0 n 0, SV.d (Value.int IntKind.i64 id),
 SV.d (Value.int IntKind.i64 tmo), SV.d (Value.int IntKind.i64 now)],
 AB.cells 44
 [SV.d (Value.int IntKind.i64 L.room), SV.d (Value.int IntKind.u64 L.first),
 SV.d (Value.int IntKind.u64 L.next), SV.d (Value.int IntKind.i64 L.last),
 SV.sl 2 4 0 k 0],
 AB.row 36 4 k pg, AB.row 80 15 n (miF f)]))
 (T.need
 ((k = k ∧ PkRow k pg) ∧
 { room := L.room, first := L.first, next := L.next, last := L.last, es := rowPk k pg : LSt }.Ok)
 (T.ite
 (sendE
 { room := L.room, first := L.first, next := L.next, last := L.last, es := rowPk k pg : LSt }
 Mi.zero.id size at' !=
 0)
 (T.ret
 (AV.tup
 [EV.s (SV.c (Value.int IntKind.u64 0)),
 EV.s
 (SV.d
 (Value.int IntKind.i64
 (sendE
 { room := L.room, first := L.first, next := L.next, last := L.last, es := rowPk k pg : LSt }
 Mi.zero.id size at')))],
 [AB.cells 72
 [SV.ptr 1 0, SV.sl 3 15 0 n 0, SV.d (Value.int IntKind.i64 id),
 SV.d (Value.int IntKind.i64 tmo), SV.d (Value.int IntKind.i64 now)],
 AB.cells 44
 [SV.d
 (Value.int IntKind.i64
 (sendL
 { room := L.room, first := L.first, next := L.next, last := L.last, es := rowPk k pg : LSt }
 Mi.zero.id size at').room),
 SV.d
 (Value.int IntKind.u64
 (sendL
 { room := L.room, first := L.first, next := L.next, last := L.last, es := rowPk k pg : LSt }
 Mi.zero.id size at').first),
 SV.d
 (Value.int IntKind.u64
 (sendL
 { room := L.room, first := L.first, next := L.next, last := L.last, es := rowPk k pg : LSt }
 Mi.zero.id size at').next),
 SV.d
 (Value.int IntKind.i64
 (sendL
 { room := L.room, first := L.first, next := L.next, last := L.last, es := rowPk k pg : LSt }
 Mi.zero.id size at').last),
 SV.sl 5 4 0
 (sendL
 { room := L.room, first := L.first, next := L.next, last := L.last, es := rowPk k pg : LSt }
 Mi.zero.id size at').es.length
 0],
 AB.dead, AB.row 80 15 n (miF f),
 AB.cells 80
 [SV.d (Value.int IntKind.i64 0), SV.d (Value.int IntKind.i64 0),
 SV.d (Value.int IntKind.i64 0), SV.d (Value.int IntKind.i64 0),
 SV.d (Value.int IntKind.i64 0), SV.d (Value.int IntKind.i64 0),
 SV.d (Value.int IntKind.i64 0), SV.d (Value.int IntKind.i64 0),
 SV.d (Value.int IntKind.i64 0), SV.d (Value.int IntKind.i64 0),
 SV.d (Value.int IntKind.i64 0), SV.d (Value.int IntKind.i64 0),
 SV.d (Value.int IntKind.i64 0), SV.d (Value.int IntKind.i64 0),
 SV.d (Value.int IntKind.i64 0)],
 AB.row 36 4
 (sendL
 { room := L.room, first := L.first, next := L.next, last := L.last, es := rowPk k pg : LSt }
 Mi.zero.id size at').es.length
 (pkG
 (sendL
 { room := L.room, first := L.first, next := L.next, last := L.last, es := rowPk k pg : LSt }
 Mi.zero.id size at').es)]))
 (T.need
 (((n = n ∧ MiRow n (miF f)) ∧
 (sendL
 { room := L.room, first := L.first, next := L.next, last := L.last, es := rowPk k pg : LSt }
 Mi.zero.id size at').es.length =
 (sendL
 { room := L.room, first := L.first, next := L.next, last := L.last, es := rowPk k pg : LSt }
 Mi.zero.id size at').es.length ∧
 PkRow
 (sendL
 { room := L.room, first := L.first, next := L.next, last := L.last, es := rowPk k pg : LSt }
 Mi.zero.id size at').es.length
 (pkG
 (sendL
 { room := L.room, first := L.first, next := L.next, last := L.last, es := rowPk k pg : LSt }
 Mi.zero.id size at').es)) ∧
 (rowMi n (miF f)).length ≤ 64)
 (T.ret
 (AV.tup
 [EV.s
 (SV.d
 (Value.int IntKind.u64
 (sendN
 { room := L.room, first := L.first, next := L.next, last := L.last, es := rowPk k pg : LSt }
 Mi.zero.id size at'))),
 EV.s (SV.c (Value.int IntKind.i64 0))],
 [AB.cells 72
 [SV.ptr 1 0, SV.sl 7 15 0 (putM (rowMi n (miF f)) Mi.zero).length 0,
 SV.d (Value.int IntKind.i64 id), SV.d (Value.int IntKind.i64 tmo),
 SV.d (Value.int IntKind.i64 at')],
 AB.cells 44
 [SV.d
 (Value.int IntKind.i64
 (sendL
 { room := L.room, first := L.first, next := L.next, last := L.last, es := rowPk k pg : LSt }
 Mi.zero.id size at').room),
 SV.d
 (Value.int IntKind.u64
 (sendL
 { room := L.room, first := L.first, next := L.next, last := L.last, es := rowPk k pg : LSt }
 Mi.zero.id size at').first),
 SV.d
 (Value.int IntKind.u64
 (sendL
 { room := L.room, first := L.first, next := L.next, last := L.last, es := rowPk k pg : LSt }
 Mi.zero.id size at').next),
 SV.d
 (Value.int IntKind.i64
 (sendL
 { room := L.room, first := L.first, next := L.next, last := L.last, es := rowPk k pg : LSt }
 Mi.zero.id size at').last),
 SV.sl 6 4 0
 (rowPk
 (sendL
 { room := L.room, first := L.first, next := L.next, last := L.last, es := rowPk k pg : LSt }
 Mi.zero.id size at').es.length
 (pkG
 (sendL
 { room := L.room, first := L.first, next := L.next, last := L.last, es := rowPk k pg : LSt }
 Mi.zero.id size at').es)).length
 0],
 AB.dead, AB.dead,
 AB.cells 80
 [SV.d (Value.int IntKind.i64 0), SV.d (Value.int IntKind.i64 0),
 SV.d (Value.int IntKind.i64 0), SV.d (Value.int IntKind.i64 0),
 SV.d (Value.int IntKind.i64 0), SV.d (Value.int IntKind.i64 0),
 SV.d (Value.int IntKind.i64 0), SV.d (Value.int IntKind.i64 0),
 SV.d (Value.int IntKind.i64 0), SV.d (Value.int IntKind.i64 0),
 SV.d (Value.int IntKind.i64 0), SV.d (Value.int IntKind.i64 0),
 SV.d (Value.int IntKind.i64 0), SV.d (Value.int IntKind.i64 0),
 SV.d (Value.int IntKind.i64 0)],
 AB.dead,
 AB.row 36 4
 (rowPk
 (sendL
 { room := L.room, first := L.first, next := L.next, last := L.last, es := rowPk k pg : LSt }
 Mi.zero.id size at').es.length
 (pkG
 (sendL
 { room := L.room, first := L.first, next := L.next, last := L.last, es := rowPk k pg : LSt }
 Mi.zero.id size at').es)).length
 (pkG
 (rowPk
 (sendL
 { room := L.room, first := L.first, next := L.next, last := L.last, es := rowPk k pg : LSt }
 Mi.zero.id size at').es.length
 (pkG
 (sendL
 { room := L.room, first := L.first, next := L.next, last := L.last, es := rowPk k pg : LSt }
 Mi.zero.id size at').es))),
 AB.row 80 15 (putM (rowMi n (miF f)) Mi.zero).length
 (miG (putM (rowMi n (miF f)) Mi.zero))])))))))))))))))
 (T.ret
 (AV.tup [EV.s (SV.c (Value.int IntKind.u64 0)), EV.s (SV.c (Value.int IntKind.i64 10))],
 [AB.cells 72
 [SV.ptr 1 0, SV.sl 3 15 0 n 0, SV.d (Value.int IntKind.i64 id), SV.d (Value.int IntKind.i64 tmo),
 SV.d (Value.int IntKind.i64 now)],
 AB.cells 44
 [SV.d (Value.int IntKind.i64 L.room), SV.d (Value.int IntKind.u64 L.first),
 SV.d (Value.int IntKind.u64 L.next), SV.d (Value.int IntKind.i64 L.last), SV.sl 2 4 0 k 0],
 AB.row 36 4 k pg, AB.row 80 15 n (miF f)])))
 (T.ret
 (AV.tup [EV.s (SV.c (Value.int IntKind.u64 0)), EV.s (SV.c (Value.int IntKind.i64 10))],
 [AB.cells 72
 [SV.ptr 1 0, SV.sl 3 15 0 n 0, SV.d (Value.int IntKind.i64 id), SV.d (Value.int IntKind.i64 tmo),
 SV.d (Value.int IntKind.i64 now)],
 AB.cells 44
 [SV.d (Value.int IntKind.i64 L.room), SV.d (Value.int IntKind.u64 L.first),
 SV.d (Value.int IntKind.u64 L.next), SV.d (Value.int IntKind.i64 L.last), SV.sl 2 4 0 k 0],
 AB.row 36 4 k pg, AB.row 80 15 n (miF f)])) := by kernel_rfl


noncomputable def t55 (L : LSt) (k : Nat) (pg : Nat → List Value) (n : Nat) (f : Nat → Mi) (now id tmo : Int) : T (AV × Heap) := callT Try.prog (entL e55) 4 55 [.e (.s (.ptr 0 0))] (rH L k pg n (miF f) now id tmo) fun r H' => .ret (r, H')

theorem t55_eq (L : LSt) (k : Nat) (pg : Nat → List Value) (n : Nat) (f : Nat → Mi) (now id tmo : Int) : t55 L k pg n f now id tmo =
 T.ite ((↑n : Int) == 0)
 (T.ret
 (AV.tup
 [EV.agg
 [SV.c (Value.int IntKind.i64 0), SV.c (Value.int IntKind.i64 0), SV.c (Value.int IntKind.i64 0),
 SV.c (Value.int IntKind.i64 0), SV.c (Value.int IntKind.i64 0), SV.c (Value.int IntKind.i64 0),
 SV.c (Value.int IntKind.i64 0), SV.c (Value.int IntKind.i64 0), SV.c (Value.int IntKind.i64 0),
 SV.c (Value.int IntKind.i64 0), SV.c (Value.int IntKind.i64 0), SV.c (Value.int IntKind.i64 0),
 SV.c (Value.int IntKind.i64 0), SV.c (Value.int IntKind.i64 0), SV.c (Value.int IntKind.i64 0)],
 EV.s (SV.c (Value.bool false))],
 [AB.cells 72
 [SV.ptr 1 0, SV.sl 3 15 0 n 0, SV.d (Value.int IntKind.i64 id), SV.d (Value.int IntKind.i64 tmo),
 SV.d (Value.int IntKind.i64 now)],
 AB.cells 44
 [SV.d (Value.int IntKind.i64 L.room), SV.d (Value.int IntKind.u64 L.first),
 SV.d (Value.int IntKind.u64 L.next), SV.d (Value.int IntKind.i64 L.last), SV.sl 2 4 0 k 0],
 AB.row 36 4 k pg, AB.row 80 15 n (miF f)]))
 (T.need ((0 : Int) ≤ 0 ∧ (0 : Int) < (↑n : Int))
 (T.need (0 < n)
 (T.need True
 (T.ite (decide (f 0).DoneP)
 (T.need ((0 : Int) ≤ 0 ∧ (0 : Int) < (↑n : Int))
 (T.need (0 < n)
 (T.need ((0 : Int) ≤ 1 ∧ (1 : Int) ≤ (↑n : Int) ∧ (↑n : Int) ≤ (↑n : Int))
 (T.ret
 (AV.tup
 [EV.agg
 [SV.d (Value.int IntKind.i64 (f 0).id), SV.d (Value.int IntKind.i64 (f 0).frm),
 SV.d (Value.int IntKind.i64 (f 0).to), SV.d (Value.int IntKind.i64 (f 0).sent),
 SV.d (Value.int IntKind.i64 (f 0).acked), SV.d (Value.int IntKind.i64 (f 0).lost),
 SV.d (Value.int IntKind.i64 (f 0).packets), SV.d (Value.int IntKind.i64 (f 0).hits),
 SV.d (Value.int IntKind.i64 (f 0).drops), SV.d (Value.int IntKind.i64 (f 0).n),
 SV.d (Value.int IntKind.i64 (f 0).sumT), SV.d (Value.int IntKind.i64 (f 0).sumR),
 SV.d (Value.int IntKind.i64 (f 0).sumTT), SV.d (Value.int IntKind.i64 (f 0).sumTR),
 SV.d (Value.int IntKind.i64 (f 0).sumRR)],
 EV.s (SV.c (Value.bool true))],
 [AB.cells 72
 [SV.ptr 1 0, SV.sl 3 15 1 ((↑n : Int).toNat - Int.toNat 1) 0, SV.d (Value.int IntKind.i64 id),
 SV.d (Value.int IntKind.i64 tmo), SV.d (Value.int IntKind.i64 now)],
 AB.cells 44
 [SV.d (Value.int IntKind.i64 L.room), SV.d (Value.int IntKind.u64 L.first),
 SV.d (Value.int IntKind.u64 L.next), SV.d (Value.int IntKind.i64 L.last), SV.sl 2 4 0 k 0],
 AB.row 36 4 k pg, AB.row 80 15 n (miF f)])))))
 (T.ret
 (AV.tup
 [EV.agg
 [SV.c (Value.int IntKind.i64 0), SV.c (Value.int IntKind.i64 0), SV.c (Value.int IntKind.i64 0),
 SV.c (Value.int IntKind.i64 0), SV.c (Value.int IntKind.i64 0), SV.c (Value.int IntKind.i64 0),
 SV.c (Value.int IntKind.i64 0), SV.c (Value.int IntKind.i64 0), SV.c (Value.int IntKind.i64 0),
 SV.c (Value.int IntKind.i64 0), SV.c (Value.int IntKind.i64 0), SV.c (Value.int IntKind.i64 0),
 SV.c (Value.int IntKind.i64 0), SV.c (Value.int IntKind.i64 0), SV.c (Value.int IntKind.i64 0)],
 EV.s (SV.c (Value.bool false))],
 [AB.cells 72
 [SV.ptr 1 0, SV.sl 3 15 0 n 0, SV.d (Value.int IntKind.i64 id), SV.d (Value.int IntKind.i64 tmo),
 SV.d (Value.int IntKind.i64 now)],
 AB.cells 44
 [SV.d (Value.int IntKind.i64 L.room), SV.d (Value.int IntKind.u64 L.first),
 SV.d (Value.int IntKind.u64 L.next), SV.d (Value.int IntKind.i64 L.last), SV.sl 2 4 0 k 0],
 AB.row 36 4 k pg, AB.row 80 15 n (miF f)])))))) := by kernel_rfl


end Go.Proofs.Ythckkoledhjmeaa.Ev
