/-
  The abstract evaluator's trees: what is tallied.
-/
import Derived.Test.YthckkoledhjmeaaCA
namespace Go.Proofs.Ythckkoledhjmeaa.Ev
open Go

def niF (f : Nat → Int) : Nat → List Value := fun j => [.int .i64 (f j)]

def e45 : List (Nat × Ent) := [(45, .body o45 0), (59, .summ (sure sClose)), (57, .summ (sure sOpen))]
def e46 : List (Nat × Ent) := [(46, .body o46 0), (60, .summ (sure sSnd))]
def e47 : List (Nat × Ent) := [(47, .body o47 0), (70, .summ (sure sLose)), (71, .summ (sure sAck))]

def tH (n : Nat) (ga : Nat → List Value) (taken : Int) (k : Nat) (a b c : Nat → List Value) : Heap :=
  [.cells 60 [.sl 1 15 0 n 0, .d (.int .i64 taken), .sl 2 1 0 k 0, .sl 3 1 0 k 0, .sl 4 1 0 k 0], .row 80 15 n ga, .row 3 1 k a, .row 3 1 k b, .row 3 1 k c]

noncomputable def t45 (n : Nat) (ga : Nat → Mi) (taken : Int) (k : Nat) (a b c : Nat → Int) (id att : Int) : T (AV × Heap) := callT Try.prog (entL e45) 2 45 [.e (.s (.ptr 0 0)), .d (.int .i64 id), .d (.int .i64 att)] (tH n (miF ga) taken k (niF a) (niF b) (niF c)) fun r H' => .ret (r, H')

theorem t45_eq (n : Nat) (ga : Nat → Mi) (taken : Int) (k : Nat) (a b c : Nat → Int) (id att : Int) : t45 n ga taken k a b c id att =
    T.ite (id != (↑n : Int))
 (T.ret
 (AV.e (EV.s (SV.c (Value.bool false))),
 [AB.cells 60
 [SV.sl 1 15 0 n 0, SV.d (Value.int IntKind.i64 taken), SV.sl 2 1 0 k 0, SV.sl 3 1 0 k 0, SV.sl 4 1 0 k 0],
 AB.row 80 15 n (miF ga), AB.row 3 1 k (niF a), AB.row 3 1 k (niF b), AB.row 3 1 k (niF c)]))
 (T.ite (decide (id > 0))
 (T.need (0 ≤ IntKind.i64.wrap (id - 1) ∧ IntKind.i64.wrap (id - 1) < (↑n : Int))
 (T.need (0 + (IntKind.i64.wrap (id - 1)).toNat < n)
 (T.need ((closeE (ga (0 + (IntKind.i64.wrap (id - 1)).toNat)) att == 0) = true)
 (T.need (0 ≤ IntKind.i64.wrap (id - 1) ∧ IntKind.i64.wrap (id - 1) < (↑n : Int))
 (T.need (0 + (IntKind.i64.wrap (id - 1)).toNat < n)
 (T.need ((openE id att == 0) = true)
 (T.need
 (some
 (AB.cells 60
 [SV.sl 1 15 0 n 0, SV.d (Value.int IntKind.i64 taken), SV.sl 2 1 0 k 0, SV.sl 3 1 0 k 0,
 SV.sl 4 1 0 k 0]) =
 some
 (AB.cells 60
 [SV.sl 1 15 0 n 0, SV.d (Value.int IntKind.i64 taken), SV.sl 2 1 0 k 0, SV.sl 3 1 0 k 0,
 SV.sl 4 1 0 k 0]))
 (T.need
 (0 + n ≤ n ∧
 1 ≤
 (chunksOf 15 1
 [Value.int IntKind.i64 (openM id att).id, Value.int IntKind.i64 (openM id att).frm,
 Value.int IntKind.i64 (openM id att).to, Value.int IntKind.i64 (openM id att).sent,
 Value.int IntKind.i64 (openM id att).acked, Value.int IntKind.i64 (openM id att).lost,
 Value.int IntKind.i64 (openM id att).packets, Value.int IntKind.i64 (openM id att).hits,
 Value.int IntKind.i64 (openM id att).drops, Value.int IntKind.i64 (openM id att).n,
 Value.int IntKind.i64 (openM id att).sumT, Value.int IntKind.i64 (openM id att).sumR,
 Value.int IntKind.i64 (openM id att).sumTT, Value.int IntKind.i64 (openM id att).sumTR,
 Value.int IntKind.i64 (openM id att).sumRR]).length ∧
 n + 1 ≤ most)
 (T.ret
 (AV.e (EV.s (SV.c (Value.bool true))),
 [AB.cells 60
 [SV.sl 8 15 0 (n + 1) 0, SV.d (Value.int IntKind.i64 taken), SV.sl 2 1 0 k 0,
 SV.sl 3 1 0 k 0, SV.sl 4 1 0 k 0],
 AB.dead, AB.row 3 1 k (niF a), AB.row 3 1 k (niF b), AB.row 3 1 k (niF c),
 AB.cells 80
 [SV.d (Value.int IntKind.i64 (closeM (ga (0 + (IntKind.i64.wrap (id - 1)).toNat)) att).id),
 SV.d
 (Value.int IntKind.i64 (closeM (ga (0 + (IntKind.i64.wrap (id - 1)).toNat)) att).frm),
 SV.d (Value.int IntKind.i64 (closeM (ga (0 + (IntKind.i64.wrap (id - 1)).toNat)) att).to),
 SV.d
 (Value.int IntKind.i64 (closeM (ga (0 + (IntKind.i64.wrap (id - 1)).toNat)) att).sent),
 SV.d
 (Value.int IntKind.i64 (closeM (ga (0 + (IntKind.i64.wrap (id - 1)).toNat)) att).acked),
 SV.d
 (Value.int IntKind.i64 (closeM (ga (0 + (IntKind.i64.wrap (id - 1)).toNat)) att).lost),
 SV.d
 (Value.int IntKind.i64
 (closeM (ga (0 + (IntKind.i64.wrap (id - 1)).toNat)) att).packets),
 SV.d
 (Value.int IntKind.i64 (closeM (ga (0 + (IntKind.i64.wrap (id - 1)).toNat)) att).hits),
 SV.d
 (Value.int IntKind.i64 (closeM (ga (0 + (IntKind.i64.wrap (id - 1)).toNat)) att).drops),
 SV.d (Value.int IntKind.i64 (closeM (ga (0 + (IntKind.i64.wrap (id - 1)).toNat)) att).n),
 SV.d
 (Value.int IntKind.i64 (closeM (ga (0 + (IntKind.i64.wrap (id - 1)).toNat)) att).sumT),
 SV.d
 (Value.int IntKind.i64 (closeM (ga (0 + (IntKind.i64.wrap (id - 1)).toNat)) att).sumR),
 SV.d
 (Value.int IntKind.i64 (closeM (ga (0 + (IntKind.i64.wrap (id - 1)).toNat)) att).sumTT),
 SV.d
 (Value.int IntKind.i64 (closeM (ga (0 + (IntKind.i64.wrap (id - 1)).toNat)) att).sumTR),
 SV.d
 (Value.int IntKind.i64
 (closeM (ga (0 + (IntKind.i64.wrap (id - 1)).toNat)) att).sumRR)],
 AB.cells 80
 [SV.d (Value.int IntKind.i64 (openM id att).id),
 SV.d (Value.int IntKind.i64 (openM id att).frm), SV.d (Value.int IntKind.i64 (-1)),
 SV.d (Value.int IntKind.i64 0), SV.d (Value.int IntKind.i64 0),
 SV.d (Value.int IntKind.i64 0), SV.d (Value.int IntKind.i64 0),
 SV.d (Value.int IntKind.i64 0), SV.d (Value.int IntKind.i64 0),
 SV.d (Value.int IntKind.i64 0), SV.d (Value.int IntKind.i64 0),
 SV.d (Value.int IntKind.i64 0), SV.d (Value.int IntKind.i64 0),
 SV.d (Value.int IntKind.i64 0), SV.d (Value.int IntKind.i64 0)],
 AB.lit 80 15
 [[Value.int IntKind.i64 (openM id att).id, Value.int IntKind.i64 (openM id att).frm,
 Value.int IntKind.i64 (-1), Value.int IntKind.i64 0, Value.int IntKind.i64 0,
 Value.int IntKind.i64 0, Value.int IntKind.i64 0, Value.int IntKind.i64 0,
 Value.int IntKind.i64 0, Value.int IntKind.i64 0, Value.int IntKind.i64 0,
 Value.int IntKind.i64 0, Value.int IntKind.i64 0, Value.int IntKind.i64 0,
 Value.int IntKind.i64 0]],
 AB.row 80 15 (n + 1)
 (appendG
 (spliceG (miF ga) (0 + (IntKind.i64.wrap (id - 1)).toNat) 0
 [Value.int IntKind.i64 (closeM (ga (0 + (IntKind.i64.wrap (id - 1)).toNat)) att).id,
 Value.int IntKind.i64 (closeM (ga (0 + (IntKind.i64.wrap (id - 1)).toNat)) att).frm,
 Value.int IntKind.i64 (closeM (ga (0 + (IntKind.i64.wrap (id - 1)).toNat)) att).to,
 Value.int IntKind.i64 (closeM (ga (0 + (IntKind.i64.wrap (id - 1)).toNat)) att).sent,
 Value.int IntKind.i64 (closeM (ga (0 + (IntKind.i64.wrap (id - 1)).toNat)) att).acked,
 Value.int IntKind.i64 (closeM (ga (0 + (IntKind.i64.wrap (id - 1)).toNat)) att).lost,
 Value.int IntKind.i64
 (closeM (ga (0 + (IntKind.i64.wrap (id - 1)).toNat)) att).packets,
 Value.int IntKind.i64 (closeM (ga (0 + (IntKind.i64.wrap (id - 1)).toNat)) att).hits,
 Value.int IntKind.i64 (closeM (ga (0 + (IntKind.i64.wrap (id - 1)).toNat)) att).drops,
 Value.int IntKind.i64 (closeM (ga (0 + (IntKind.i64.wrap (id - 1)).toNat)) att).n,
 Value.int IntKind.i64 (closeM (ga (0 + (IntKind.i64.wrap (id - 1)).toNat)) att).sumT,
 Value.int IntKind.i64 (closeM (ga (0 + (IntKind.i64.wrap (id - 1)).toNat)) att).sumR,
 Value.int IntKind.i64 (closeM (ga (0 + (IntKind.i64.wrap (id - 1)).toNat)) att).sumTT,
 Value.int IntKind.i64 (closeM (ga (0 + (IntKind.i64.wrap (id - 1)).toNat)) att).sumTR,
 Value.int IntKind.i64
 (closeM (ga (0 + (IntKind.i64.wrap (id - 1)).toNat)) att).sumRR])
 0 n
 (fun j =>
 (chunksOf 15 1
 [Value.int IntKind.i64 (openM id att).id,
 Value.int IntKind.i64 (openM id att).frm,
 Value.int IntKind.i64 (openM id att).to,
 Value.int IntKind.i64 (openM id att).sent,
 Value.int IntKind.i64 (openM id att).acked,
 Value.int IntKind.i64 (openM id att).lost,
 Value.int IntKind.i64 (openM id att).packets,
 Value.int IntKind.i64 (openM id att).hits,
 Value.int IntKind.i64 (openM id att).drops,
 Value.int IntKind.i64 (openM id att).n,
 Value.int IntKind.i64 (openM id att).sumT,
 Value.int IntKind.i64 (openM id att).sumR,
 Value.int IntKind.i64 (openM id att).sumTT,
 Value.int IntKind.i64 (openM id att).sumTR,
 Value.int IntKind.i64 (openM id att).sumRR]).getD
 j [])
 0)]))))))))))
 (T.need ((openE id att == 0) = true)
 (T.need
 (some
 (AB.cells 60
 [SV.sl 1 15 0 n 0, SV.d (Value.int IntKind.i64 taken), SV.sl 2 1 0 k 0, SV.sl 3 1 0 k 0,
 SV.sl 4 1 0 k 0]) =
 some
 (AB.cells 60
 [SV.sl 1 15 0 n 0, SV.d (Value.int IntKind.i64 taken), SV.sl 2 1 0 k 0, SV.sl 3 1 0 k 0,
 SV.sl 4 1 0 k 0]))
 (T.need
 (0 + n ≤ n ∧
 1 ≤
 (chunksOf 15 1
 [Value.int IntKind.i64 (openM id att).id, Value.int IntKind.i64 (openM id att).frm,
 Value.int IntKind.i64 (openM id att).to, Value.int IntKind.i64 (openM id att).sent,
 Value.int IntKind.i64 (openM id att).acked, Value.int IntKind.i64 (openM id att).lost,
 Value.int IntKind.i64 (openM id att).packets, Value.int IntKind.i64 (openM id att).hits,
 Value.int IntKind.i64 (openM id att).drops, Value.int IntKind.i64 (openM id att).n,
 Value.int IntKind.i64 (openM id att).sumT, Value.int IntKind.i64 (openM id att).sumR,
 Value.int IntKind.i64 (openM id att).sumTT, Value.int IntKind.i64 (openM id att).sumTR,
 Value.int IntKind.i64 (openM id att).sumRR]).length ∧
 n + 1 ≤ most)
 (T.ret
 (AV.e (EV.s (SV.c (Value.bool true))),
 [AB.cells 60
 [SV.sl 7 15 0 (n + 1) 0, SV.d (Value.int IntKind.i64 taken), SV.sl 2 1 0 k 0, SV.sl 3 1 0 k 0,
 SV.sl 4 1 0 k 0],
 AB.dead, AB.row 3 1 k (niF a), AB.row 3 1 k (niF b), AB.row 3 1 k (niF c),
 AB.cells 80
 [SV.d (Value.int IntKind.i64 (openM id att).id), SV.d (Value.int IntKind.i64 (openM id att).frm),
 SV.d (Value.int IntKind.i64 (-1)), SV.d (Value.int IntKind.i64 0), SV.d (Value.int IntKind.i64 0),
 SV.d (Value.int IntKind.i64 0), SV.d (Value.int IntKind.i64 0), SV.d (Value.int IntKind.i64 0),
 SV.d (Value.int IntKind.i64 0), SV.d (Value.int IntKind.i64 0), SV.d (Value.int IntKind.i64 0),
 SV.d (Value.int IntKind.i64 0), SV.d (Value.int IntKind.i64 0), SV.d (Value.int IntKind.i64 0),
 SV.d (Value.int IntKind.i64 0)],
 AB.lit 80 15
 [[Value.int IntKind.i64 (openM id att).id, Value.int IntKind.i64 (openM id att).frm,
 Value.int IntKind.i64 (-1), Value.int IntKind.i64 0, Value.int IntKind.i64 0,
 Value.int IntKind.i64 0, Value.int IntKind.i64 0, Value.int IntKind.i64 0,
 Value.int IntKind.i64 0, Value.int IntKind.i64 0, Value.int IntKind.i64 0,
 Value.int IntKind.i64 0, Value.int IntKind.i64 0, Value.int IntKind.i64 0,
 Value.int IntKind.i64 0]],
 AB.row 80 15 (n + 1)
 (appendG (miF ga) 0 n
 (fun j =>
 (chunksOf 15 1
 [Value.int IntKind.i64 (openM id att).id, Value.int IntKind.i64 (openM id att).frm,
 Value.int IntKind.i64 (openM id att).to, Value.int IntKind.i64 (openM id att).sent,
 Value.int IntKind.i64 (openM id att).acked, Value.int IntKind.i64 (openM id att).lost,
 Value.int IntKind.i64 (openM id att).packets, Value.int IntKind.i64 (openM id att).hits,
 Value.int IntKind.i64 (openM id att).drops, Value.int IntKind.i64 (openM id att).n,
 Value.int IntKind.i64 (openM id att).sumT, Value.int IntKind.i64 (openM id att).sumR,
 Value.int IntKind.i64 (openM id att).sumTT, Value.int IntKind.i64 (openM id att).sumTR,
 Value.int IntKind.i64 (openM id att).sumRR]).getD
 j [])
 0)])))))) := by kernel_rfl


noncomputable def t46 (n : Nat) (ga : Nat → Mi) (taken : Int) (k : Nat) (a b c : Nat → Int) (s size att : Int) : T (AV × Heap) := callT Try.prog (entL e46) 2 46 [.e (.s (.ptr 0 0)), .d (.int .u64 s), .d (.int .i64 size), .d (.int .i64 att)] (tH n (miF ga) taken k (niF a) (niF b) (niF c)) fun r H' => .ret (r, H')

theorem t46_eq (n : Nat) (ga : Nat → Mi) (taken : Int) (k : Nat) (a b c : Nat → Int) (s size att : Int) : t46 n ga taken k a b c s size att =
    T.ite (s != IntKind.u64.wrap (↑k : Int))
 (T.ret
 (AV.e (EV.s (SV.c (Value.bool false))),
 [AB.cells 60
 [SV.sl 1 15 0 n 0, SV.d (Value.int IntKind.i64 taken), SV.sl 2 1 0 k 0, SV.sl 3 1 0 k 0, SV.sl 4 1 0 k 0],
 AB.row 80 15 n (miF ga), AB.row 3 1 k (niF a), AB.row 3 1 k (niF b), AB.row 3 1 k (niF c)]))
 (T.ite ((↑n : Int) == 0)
 (T.ret
 (AV.e (EV.s (SV.c (Value.bool false))),
 [AB.cells 60
 [SV.sl 1 15 0 n 0, SV.d (Value.int IntKind.i64 taken), SV.sl 2 1 0 k 0, SV.sl 3 1 0 k 0, SV.sl 4 1 0 k 0],
 AB.row 80 15 n (miF ga), AB.row 3 1 k (niF a), AB.row 3 1 k (niF b), AB.row 3 1 k (niF c)]))
 (T.need
 (0 + k ≤ k ∧ 1 ≤ (chunksOf 1 1 [Value.int IntKind.i64 (IntKind.i64.wrap ((↑n : Int) - 1))]).length ∧ k + 1 ≤ most)
 (T.need (0 + k ≤ k ∧ 1 ≤ (chunksOf 1 1 [Value.int IntKind.i64 att]).length ∧ k + 1 ≤ most)
 (T.need (0 + k ≤ k ∧ 1 ≤ (chunksOf 1 1 [Value.int IntKind.i64 size]).length ∧ k + 1 ≤ most)
 (T.need (0 ≤ IntKind.i64.wrap ((↑n : Int) - 1) ∧ IntKind.i64.wrap ((↑n : Int) - 1) < (↑n : Int))
 (T.need (0 + (IntKind.i64.wrap ((↑n : Int) - 1)).toNat < n)
 (T.need ((sndE (ga (0 + (IntKind.i64.wrap ((↑n : Int) - 1)).toNat)) size == 0) = true)
 (T.need (0 ≤ IntKind.i64.wrap ((↑n : Int) - 1) ∧ IntKind.i64.wrap ((↑n : Int) - 1) < (↑n : Int))
 (T.need (0 + (IntKind.i64.wrap ((↑n : Int) - 1)).toNat < n)
 (T.ret
 (AV.e (EV.s (SV.c (Value.bool true))),
 [AB.cells 60
 [SV.sl 1 15 0 n 0, SV.d (Value.int IntKind.i64 taken), SV.sl 6 1 0 (k + 1) 0,
 SV.sl 8 1 0 (k + 1) 0, SV.sl 10 1 0 (k + 1) 0],
 AB.row 80 15 n
 (spliceG (miF ga) (0 + (IntKind.i64.wrap ((↑n : Int) - 1)).toNat) 0
 [Value.int IntKind.i64
 (sndM (ga (0 + (IntKind.i64.wrap ((↑n : Int) - 1)).toNat)) size).id,
 Value.int IntKind.i64
 (sndM (ga (0 + (IntKind.i64.wrap ((↑n : Int) - 1)).toNat)) size).frm,
 Value.int IntKind.i64
 (sndM (ga (0 + (IntKind.i64.wrap ((↑n : Int) - 1)).toNat)) size).to,
 Value.int IntKind.i64
 (sndM (ga (0 + (IntKind.i64.wrap ((↑n : Int) - 1)).toNat)) size).sent,
 Value.int IntKind.i64
 (sndM (ga (0 + (IntKind.i64.wrap ((↑n : Int) - 1)).toNat)) size).acked,
 Value.int IntKind.i64
 (sndM (ga (0 + (IntKind.i64.wrap ((↑n : Int) - 1)).toNat)) size).lost,
 Value.int IntKind.i64
 (sndM (ga (0 + (IntKind.i64.wrap ((↑n : Int) - 1)).toNat)) size).packets,
 Value.int IntKind.i64
 (sndM (ga (0 + (IntKind.i64.wrap ((↑n : Int) - 1)).toNat)) size).hits,
 Value.int IntKind.i64
 (sndM (ga (0 + (IntKind.i64.wrap ((↑n : Int) - 1)).toNat)) size).drops,
 Value.int IntKind.i64
 (sndM (ga (0 + (IntKind.i64.wrap ((↑n : Int) - 1)).toNat)) size).n,
 Value.int IntKind.i64
 (sndM (ga (0 + (IntKind.i64.wrap ((↑n : Int) - 1)).toNat)) size).sumT,
 Value.int IntKind.i64
 (sndM (ga (0 + (IntKind.i64.wrap ((↑n : Int) - 1)).toNat)) size).sumR,
 Value.int IntKind.i64
 (sndM (ga (0 + (IntKind.i64.wrap ((↑n : Int) - 1)).toNat)) size).sumTT,
 Value.int IntKind.i64
 (sndM (ga (0 + (IntKind.i64.wrap ((↑n : Int) - 1)).toNat)) size).sumTR,
 Value.int IntKind.i64
 (sndM (ga (0 + (IntKind.i64.wrap ((↑n : Int) - 1)).toNat)) size).sumRR]),
 AB.dead, AB.dead, AB.dead,
 AB.lit 3 1 [[Value.int IntKind.i64 (IntKind.i64.wrap ((↑n : Int) - 1))]],
 AB.row 3 1 (k + 1)
 (appendG (niF a) 0 k
 (fun j =>
 (chunksOf 1 1 [Value.int IntKind.i64 (IntKind.i64.wrap ((↑n : Int) - 1))]).getD j [])
 0),
 AB.lit 3 1 [[Value.int IntKind.i64 att]],
 AB.row 3 1 (k + 1)
 (appendG (niF b) 0 k (fun j => (chunksOf 1 1 [Value.int IntKind.i64 att]).getD j []) 0),
 AB.lit 3 1 [[Value.int IntKind.i64 size]],
 AB.row 3 1 (k + 1)
 (appendG (niF c) 0 k (fun j => (chunksOf 1 1 [Value.int IntKind.i64 size]).getD j [])
 0)]))))))))))) := by kernel_rfl


noncomputable def t47 (n : Nat) (ga : Nat → Mi) (taken : Int) (k : Nat) (a b c : Nat → Int) (s : Int) (p : Pkt) (att : Int) : T (AV × Heap) := callT Try.prog (entL e47) 2 47 [.e (.s (.ptr 0 0)), .d (.int .u64 s), .e (.agg p.cells), .d (.int .i64 att)] (tH n (miF ga) taken k (niF a) (niF b) (niF c)) fun r H' => .ret (r, H')

theorem t47_eq (n : Nat) (ga : Nat → Mi) (taken : Int) (k : Nat) (a b c : Nat → Int) (s : Int) (p : Pkt) (att : Int) : t47 n ga taken k a b c s p att =
    T.ite (decide (s ≥ IntKind.u64.wrap (↑k : Int)))
 (T.ret
 (AV.e (EV.s (SV.c (Value.bool false))),
 [AB.cells 60
 [SV.sl 1 15 0 n 0, SV.d (Value.int IntKind.i64 taken), SV.sl 2 1 0 k 0, SV.sl 3 1 0 k 0, SV.sl 4 1 0 k 0],
 AB.row 80 15 n (miF ga), AB.row 3 1 k (niF a), AB.row 3 1 k (niF b), AB.row 3 1 k (niF c)]))
 (T.need (0 ≤ s ∧ s < (↑k : Int))
 (T.need (0 + s.toNat < k)
 (T.ite (p.mi != a (0 + s.toNat))
 (T.ret
 (AV.e (EV.s (SV.c (Value.bool false))),
 [AB.cells 60
 [SV.sl 1 15 0 n 0, SV.d (Value.int IntKind.i64 taken), SV.sl 2 1 0 k 0, SV.sl 3 1 0 k 0,
 SV.sl 4 1 0 k 0],
 AB.row 80 15 n (miF ga), AB.row 3 1 k (niF a), AB.row 3 1 k (niF b), AB.row 3 1 k (niF c)]))
 (T.need (0 ≤ s ∧ s < (↑k : Int))
 (T.need (0 + s.toNat < k)
 (T.ite (p.size != c (0 + s.toNat))
 (T.ret
 (AV.e (EV.s (SV.c (Value.bool false))),
 [AB.cells 60
 [SV.sl 1 15 0 n 0, SV.d (Value.int IntKind.i64 taken), SV.sl 2 1 0 k 0, SV.sl 3 1 0 k 0,
 SV.sl 4 1 0 k 0],
 AB.row 80 15 n (miF ga), AB.row 3 1 k (niF a), AB.row 3 1 k (niF b), AB.row 3 1 k (niF c)]))
 (T.need (0 ≤ s ∧ s < (↑k : Int))
 (T.need (0 + s.toNat < k)
 (T.ite (p.sent != b (0 + s.toNat))
 (T.ret
 (AV.e (EV.s (SV.c (Value.bool false))),
 [AB.cells 60
 [SV.sl 1 15 0 n 0, SV.d (Value.int IntKind.i64 taken), SV.sl 2 1 0 k 0, SV.sl 3 1 0 k 0,
 SV.sl 4 1 0 k 0],
 AB.row 80 15 n (miF ga), AB.row 3 1 k (niF a), AB.row 3 1 k (niF b), AB.row 3 1 k (niF c)]))
 (T.need (0 ≤ p.mi ∧ p.mi < (↑n : Int))
 (T.need (0 + p.mi.toNat < n)
 ((T.need ((loseE (ga (0 + p.mi.toNat)) p.size == 0) = true)
 (T.ite (decide (att ≥ 0))
 (T.need (0 ≤ p.mi ∧ p.mi < (↑n : Int))
 (T.need (0 + p.mi.toNat < n)
 ((T.need ((ackE (ga (0 + p.mi.toNat)) p.size p.sent att == 0) = true)
 (T.need (0 ≤ p.mi ∧ p.mi < (↑n : Int))
 (T.need (0 + p.mi.toNat < n)
 (T.ret
 (AV.e (EV.s (SV.c (Value.bool true))),
 [AB.cells 60
 [SV.sl 1 15 0 n 0, SV.d (Value.int IntKind.i64 taken),
 SV.sl 2 1 0 k 0, SV.sl 3 1 0 k 0, SV.sl 4 1 0 k 0],
 AB.row 80 15 n
 (spliceG (miF ga) (0 + p.mi.toNat) 0
 [Value.int IntKind.i64
 (ackM (ga (0 + p.mi.toNat)) p.size p.sent att).id,
 Value.int IntKind.i64
 (ackM (ga (0 + p.mi.toNat)) p.size p.sent att).frm,
 Value.int IntKind.i64
 (ackM (ga (0 + p.mi.toNat)) p.size p.sent att).to,
 Value.int IntKind.i64
 (ackM (ga (0 + p.mi.toNat)) p.size p.sent att).sent,
 Value.int IntKind.i64
 (ackM (ga (0 + p.mi.toNat)) p.size p.sent att).acked,
 Value.int IntKind.i64
 (ackM (ga (0 + p.mi.toNat)) p.size p.sent att).lost,
 Value.int IntKind.i64
 (ackM (ga (0 + p.mi.toNat)) p.size p.sent att).packets,
 Value.int IntKind.i64
 (ackM (ga (0 + p.mi.toNat)) p.size p.sent att).hits,
 Value.int IntKind.i64
 (ackM (ga (0 + p.mi.toNat)) p.size p.sent att).drops,
 Value.int IntKind.i64
 (ackM (ga (0 + p.mi.toNat)) p.size p.sent att).n,
 Value.int IntKind.i64
 (ackM (ga (0 + p.mi.toNat)) p.size p.sent att).sumT,
 Value.int IntKind.i64
 (ackM (ga (0 + p.mi.toNat)) p.size p.sent att).sumR,
 Value.int IntKind.i64
 (ackM (ga (0 + p.mi.toNat)) p.size p.sent att).sumTT,
 Value.int IntKind.i64
 (ackM (ga (0 + p.mi.toNat)) p.size p.sent att).sumTR,
 Value.int IntKind.i64
 (ackM (ga (0 + p.mi.toNat)) p.size p.sent att).sumRR]),
 AB.row 3 1 k (niF a), AB.row 3 1 k (niF b),
 AB.row 3 1 k (niF c)]))))).both
 (T.need
 (some
 (AB.cells 36
 [SV.d (Value.int IntKind.u64 p.seq), SV.d (Value.int IntKind.i64 p.mi),
 SV.d (Value.int IntKind.i64 p.size),
 SV.d (Value.int IntKind.i64 p.sent)]) =
 some
 (AB.cells 36
 [SV.d (Value.int IntKind.u64 p.seq), SV.d (Value.int IntKind.i64 p.mi),
 SV.d (Value.int IntKind.i64 p.size),
 SV.d (Value.int IntKind.i64 p.sent)]))
 (T.need
 (some
 (AB.cells 36
 [SV.d (Value.int IntKind.u64 p.seq), SV.d (Value.int IntKind.i64 p.mi),
 SV.d (Value.int IntKind.i64 p.size),
 SV.d (Value.int IntKind.i64 p.sent)]) =
 some
 (AB.cells 36
 [SV.d (Value.int IntKind.u64 p.seq), SV.d (Value.int IntKind.i64 p.mi),
 SV.d (Value.int IntKind.i64 p.size),
 SV.d (Value.int IntKind.i64 p.sent)]))
 (T.need (some (AB.row 80 15 n (miF ga)) = some (AB.row 80 15 n (miF ga)))
 (T.need
 (some
 (AB.cells 36
 [SV.d (Value.int IntKind.u64 p.seq),
 SV.d (Value.int IntKind.i64 p.mi),
 SV.d (Value.int IntKind.i64 p.size),
 SV.d (Value.int IntKind.i64 p.sent)]) =
 some
 (AB.cells 36
 [SV.d (Value.int IntKind.u64 p.seq),
 SV.d (Value.int IntKind.i64 p.mi),
 SV.d (Value.int IntKind.i64 p.size),
 SV.d (Value.int IntKind.i64 p.sent)]))
 (T.need
 (some
 (AB.cells 60
 [SV.sl 1 15 0 n 0, SV.d (Value.int IntKind.i64 taken),
 SV.sl 2 1 0 k 0, SV.sl 3 1 0 k 0, SV.sl 4 1 0 k 0]) =
 some
 (AB.cells 60
 [SV.sl 1 15 0 n 0, SV.d (Value.int IntKind.i64 taken),
 SV.sl 2 1 0 k 0, SV.sl 3 1 0 k 0, SV.sl 4 1 0 k 0]))
 (T.need ((ackE (ga (0 + p.mi.toNat)) p.size p.sent att == 0) = true)
 (T.need (0 ≤ p.mi ∧ p.mi < (↑n : Int))
 (T.need (0 + p.mi.toNat < n)
 (T.ret
 (AV.e (EV.s (SV.c (Value.bool true))),
 [AB.cells 60
 [SV.sl 1 15 0 n 0, SV.d (Value.int IntKind.i64 taken),
 SV.sl 2 1 0 k 0, SV.sl 3 1 0 k 0, SV.sl 4 1 0 k 0],
 AB.row 80 15 n
 (spliceG (miF ga) (0 + p.mi.toNat) 0
 [Value.int IntKind.i64
 (ackM (ga (0 + p.mi.toNat)) p.size p.sent att).id,
 Value.int IntKind.i64
 (ackM (ga (0 + p.mi.toNat)) p.size p.sent att).frm,
 Value.int IntKind.i64
 (ackM (ga (0 + p.mi.toNat)) p.size p.sent att).to,
 Value.int IntKind.i64
 (ackM (ga (0 + p.mi.toNat)) p.size p.sent att).sent,
 Value.int IntKind.i64
 (ackM (ga (0 + p.mi.toNat)) p.size p.sent
 att).acked,
 Value.int IntKind.i64
 (ackM (ga (0 + p.mi.toNat)) p.size p.sent att).lost,
 Value.int IntKind.i64
 (ackM (ga (0 + p.mi.toNat)) p.size p.sent
 att).packets,
 Value.int IntKind.i64
 (ackM (ga (0 + p.mi.toNat)) p.size p.sent att).hits,
 Value.int IntKind.i64
 (ackM (ga (0 + p.mi.toNat)) p.size p.sent
 att).drops,
 Value.int IntKind.i64
 (ackM (ga (0 + p.mi.toNat)) p.size p.sent att).n,
 Value.int IntKind.i64
 (ackM (ga (0 + p.mi.toNat)) p.size p.sent att).sumT,
 Value.int IntKind.i64
 (ackM (ga (0 + p.mi.toNat)) p.size p.sent att).sumR,
 Value.int IntKind.i64
 (ackM (ga (0 + p.mi.toNat)) p.size p.sent
 att).sumTT,
 Value.int IntKind.i64
 (ackM (ga (0 + p.mi.toNat)) p.size p.sent
 att).sumTR,
 Value.int IntKind.i64
 (ackM (ga (0 + p.mi.toNat)) p.size p.sent
 att).sumRR]),
 AB.row 3 1 k (niF a), AB.row 3 1 k (niF b),
 AB.row 3 1 k (niF c)])))))))))))))
 (T.need (0 ≤ p.mi ∧ p.mi < (↑n : Int))
 (T.need (0 + p.mi.toNat < n)
 (T.ret
 (AV.e (EV.s (SV.c (Value.bool true))),
 [AB.cells 60
 [SV.sl 1 15 0 n 0, SV.d (Value.int IntKind.i64 taken), SV.sl 2 1 0 k 0,
 SV.sl 3 1 0 k 0, SV.sl 4 1 0 k 0],
 AB.row 80 15 n
 (spliceG (miF ga) (0 + p.mi.toNat) 0
 [Value.int IntKind.i64 (loseM (ga (0 + p.mi.toNat)) p.size).id,
 Value.int IntKind.i64 (loseM (ga (0 + p.mi.toNat)) p.size).frm,
 Value.int IntKind.i64 (loseM (ga (0 + p.mi.toNat)) p.size).to,
 Value.int IntKind.i64 (loseM (ga (0 + p.mi.toNat)) p.size).sent,
 Value.int IntKind.i64 (loseM (ga (0 + p.mi.toNat)) p.size).acked,
 Value.int IntKind.i64 (loseM (ga (0 + p.mi.toNat)) p.size).lost,
 Value.int IntKind.i64 (loseM (ga (0 + p.mi.toNat)) p.size).packets,
 Value.int IntKind.i64 (loseM (ga (0 + p.mi.toNat)) p.size).hits,
 Value.int IntKind.i64 (loseM (ga (0 + p.mi.toNat)) p.size).drops,
 Value.int IntKind.i64 (loseM (ga (0 + p.mi.toNat)) p.size).n,
 Value.int IntKind.i64 (loseM (ga (0 + p.mi.toNat)) p.size).sumT,
 Value.int IntKind.i64 (loseM (ga (0 + p.mi.toNat)) p.size).sumR,
 Value.int IntKind.i64 (loseM (ga (0 + p.mi.toNat)) p.size).sumTT,
 Value.int IntKind.i64 (loseM (ga (0 + p.mi.toNat)) p.size).sumTR,
 Value.int IntKind.i64 (loseM (ga (0 + p.mi.toNat)) p.size).sumRR]),
 AB.row 3 1 k (niF a), AB.row 3 1 k (niF b), AB.row 3 1 k (niF c)])))))).both
 (T.need
 (some
 (AB.cells 36
 [SV.d (Value.int IntKind.u64 p.seq), SV.d (Value.int IntKind.i64 p.mi),
 SV.d (Value.int IntKind.i64 p.size), SV.d (Value.int IntKind.i64 p.sent)]) =
 some
 (AB.cells 36
 [SV.d (Value.int IntKind.u64 p.seq), SV.d (Value.int IntKind.i64 p.mi),
 SV.d (Value.int IntKind.i64 p.size), SV.d (Value.int IntKind.i64 p.sent)]))
 (T.need (some (AB.row 80 15 n (miF ga)) = some (AB.row 80 15 n (miF ga)))
 (T.need
 (some
 (AB.cells 36
 [SV.d (Value.int IntKind.u64 p.seq), SV.d (Value.int IntKind.i64 p.mi),
 SV.d (Value.int IntKind.i64 p.size), SV.d (Value.int IntKind.i64 p.sent)]) =
 some
 (AB.cells 36
 [SV.d (Value.int IntKind.u64 p.seq), SV.d (Value.int IntKind.i64 p.mi),
 SV.d (Value.int IntKind.i64 p.size), SV.d (Value.int IntKind.i64 p.sent)]))
 (T.need
 (some
 (AB.cells 60
 [SV.sl 1 15 0 n 0, SV.d (Value.int IntKind.i64 taken), SV.sl 2 1 0 k 0,
 SV.sl 3 1 0 k 0, SV.sl 4 1 0 k 0]) =
 some
 (AB.cells 60
 [SV.sl 1 15 0 n 0, SV.d (Value.int IntKind.i64 taken), SV.sl 2 1 0 k 0,
 SV.sl 3 1 0 k 0, SV.sl 4 1 0 k 0]))
 (T.need ((loseE (ga (0 + p.mi.toNat)) p.size == 0) = true)
 (T.ite (decide (att ≥ 0))
 (T.need (0 ≤ p.mi ∧ p.mi < (↑n : Int))
 (T.need (0 + p.mi.toNat < n)
 ((T.need ((ackE (ga (0 + p.mi.toNat)) p.size p.sent att == 0) = true)
 (T.need (0 ≤ p.mi ∧ p.mi < (↑n : Int))
 (T.need (0 + p.mi.toNat < n)
 (T.ret
 (AV.e (EV.s (SV.c (Value.bool true))),
 [AB.cells 60
 [SV.sl 1 15 0 n 0, SV.d (Value.int IntKind.i64 taken),
 SV.sl 2 1 0 k 0, SV.sl 3 1 0 k 0, SV.sl 4 1 0 k 0],
 AB.row 80 15 n
 (spliceG (miF ga) (0 + p.mi.toNat) 0
 [Value.int IntKind.i64
 (ackM (ga (0 + p.mi.toNat)) p.size p.sent att).id,
 Value.int IntKind.i64
 (ackM (ga (0 + p.mi.toNat)) p.size p.sent att).frm,
 Value.int IntKind.i64
 (ackM (ga (0 + p.mi.toNat)) p.size p.sent att).to,
 Value.int IntKind.i64
 (ackM (ga (0 + p.mi.toNat)) p.size p.sent att).sent,
 Value.int IntKind.i64
 (ackM (ga (0 + p.mi.toNat)) p.size p.sent att).acked,
 Value.int IntKind.i64
 (ackM (ga (0 + p.mi.toNat)) p.size p.sent att).lost,
 Value.int IntKind.i64
 (ackM (ga (0 + p.mi.toNat)) p.size p.sent
 att).packets,
 Value.int IntKind.i64
 (ackM (ga (0 + p.mi.toNat)) p.size p.sent att).hits,
 Value.int IntKind.i64
 (ackM (ga (0 + p.mi.toNat)) p.size p.sent att).drops,
 Value.int IntKind.i64
 (ackM (ga (0 + p.mi.toNat)) p.size p.sent att).n,
 Value.int IntKind.i64
 (ackM (ga (0 + p.mi.toNat)) p.size p.sent att).sumT,
 Value.int IntKind.i64
 (ackM (ga (0 + p.mi.toNat)) p.size p.sent att).sumR,
 Value.int IntKind.i64
 (ackM (ga (0 + p.mi.toNat)) p.size p.sent att).sumTT,
 Value.int IntKind.i64
 (ackM (ga (0 + p.mi.toNat)) p.size p.sent att).sumTR,
 Value.int IntKind.i64
 (ackM (ga (0 + p.mi.toNat)) p.size p.sent
 att).sumRR]),
 AB.row 3 1 k (niF a), AB.row 3 1 k (niF b),
 AB.row 3 1 k (niF c)]))))).both
 (T.need
 (some
 (AB.cells 36
 [SV.d (Value.int IntKind.u64 p.seq),
 SV.d (Value.int IntKind.i64 p.mi),
 SV.d (Value.int IntKind.i64 p.size),
 SV.d (Value.int IntKind.i64 p.sent)]) =
 some
 (AB.cells 36
 [SV.d (Value.int IntKind.u64 p.seq),
 SV.d (Value.int IntKind.i64 p.mi),
 SV.d (Value.int IntKind.i64 p.size),
 SV.d (Value.int IntKind.i64 p.sent)]))
 (T.need
 (some
 (AB.cells 36
 [SV.d (Value.int IntKind.u64 p.seq),
 SV.d (Value.int IntKind.i64 p.mi),
 SV.d (Value.int IntKind.i64 p.size),
 SV.d (Value.int IntKind.i64 p.sent)]) =
 some
 (AB.cells 36
 [SV.d (Value.int IntKind.u64 p.seq),
 SV.d (Value.int IntKind.i64 p.mi),
 SV.d (Value.int IntKind.i64 p.size),
 SV.d (Value.int IntKind.i64 p.sent)]))
 (T.need
 (some (AB.row 80 15 n (miF ga)) = some (AB.row 80 15 n (miF ga)))
 (T.need
 (some
 (AB.cells 36
 [SV.d (Value.int IntKind.u64 p.seq),
 SV.d (Value.int IntKind.i64 p.mi),
 SV.d (Value.int IntKind.i64 p.size),
 SV.d (Value.int IntKind.i64 p.sent)]) =
 some
 (AB.cells 36
 [SV.d (Value.int IntKind.u64 p.seq),
 SV.d (Value.int IntKind.i64 p.mi),
 SV.d (Value.int IntKind.i64 p.size),
 SV.d (Value.int IntKind.i64 p.sent)]))
 (T.need
 (some
 (AB.cells 60
 [SV.sl 1 15 0 n 0, SV.d (Value.int IntKind.i64 taken),
 SV.sl 2 1 0 k 0, SV.sl 3 1 0 k 0, SV.sl 4 1 0 k 0]) =
 some
 (AB.cells 60
 [SV.sl 1 15 0 n 0, SV.d (Value.int IntKind.i64 taken),
 SV.sl 2 1 0 k 0, SV.sl 3 1 0 k 0, SV.sl 4 1 0 k 0]))
 (T.need
 ((ackE (ga (0 + p.mi.toNat)) p.size p.sent att == 0) = true)
 (T.need (0 ≤ p.mi ∧ p.mi < (↑n : Int))
 (T.need (0 + p.mi.toNat < n)
 (T.ret
 (AV.e (EV.s (SV.c (Value.bool true))),
 [AB.cells 60
 [SV.sl 1 15 0 n 0,
 SV.d (Value.int IntKind.i64 taken),
 SV.sl 2 1 0 k 0, SV.sl 3 1 0 k 0,
 SV.sl 4 1 0 k 0],
 AB.row 80 15 n
 (spliceG (miF ga) (0 + p.mi.toNat) 0
 [Value.int IntKind.i64
 (ackM (ga (0 + p.mi.toNat)) p.size p.sent
 att).id,
 Value.int IntKind.i64
 (ackM (ga (0 + p.mi.toNat)) p.size p.sent
 att).frm,
 Value.int IntKind.i64
 (ackM (ga (0 + p.mi.toNat)) p.size p.sent
 att).to,
 Value.int IntKind.i64
 (ackM (ga (0 + p.mi.toNat)) p.size p.sent
 att).sent,
 Value.int IntKind.i64
 (ackM (ga (0 + p.mi.toNat)) p.size p.sent
 att).acked,
 Value.int IntKind.i64
 (ackM (ga (0 + p.mi.toNat)) p.size p.sent
 att).lost,
 Value.int IntKind.i64
 (ackM (ga (0 + p.mi.toNat)) p.size p.sent
 att).packets,
 Value.int IntKind.i64
 (ackM (ga (0 + p.mi.toNat)) p.size p.sent
 att).hits,
 Value.int IntKind.i64
 (ackM (ga (0 + p.mi.toNat)) p.size p.sent
 att).drops,
 Value.int IntKind.i64
 (ackM (ga (0 + p.mi.toNat)) p.size p.sent
 att).n,
 Value.int IntKind.i64
 (ackM (ga (0 + p.mi.toNat)) p.size p.sent
 att).sumT,
 Value.int IntKind.i64
 (ackM (ga (0 + p.mi.toNat)) p.size p.sent
 att).sumR,
 Value.int IntKind.i64
 (ackM (ga (0 + p.mi.toNat)) p.size p.sent
 att).sumTT,
 Value.int IntKind.i64
 (ackM (ga (0 + p.mi.toNat)) p.size p.sent
 att).sumTR,
 Value.int IntKind.i64
 (ackM (ga (0 + p.mi.toNat)) p.size p.sent
 att).sumRR]),
 AB.row 3 1 k (niF a), AB.row 3 1 k (niF b),
 AB.row 3 1 k (niF c)])))))))))))))
 (T.need (0 ≤ p.mi ∧ p.mi < (↑n : Int))
 (T.need (0 + p.mi.toNat < n)
 (T.ret
 (AV.e (EV.s (SV.c (Value.bool true))),
 [AB.cells 60
 [SV.sl 1 15 0 n 0, SV.d (Value.int IntKind.i64 taken),
 SV.sl 2 1 0 k 0, SV.sl 3 1 0 k 0, SV.sl 4 1 0 k 0],
 AB.row 80 15 n
 (spliceG (miF ga) (0 + p.mi.toNat) 0
 [Value.int IntKind.i64 (loseM (ga (0 + p.mi.toNat)) p.size).id,
 Value.int IntKind.i64 (loseM (ga (0 + p.mi.toNat)) p.size).frm,
 Value.int IntKind.i64 (loseM (ga (0 + p.mi.toNat)) p.size).to,
 Value.int IntKind.i64 (loseM (ga (0 + p.mi.toNat)) p.size).sent,
 Value.int IntKind.i64 (loseM (ga (0 + p.mi.toNat)) p.size).acked,
 Value.int IntKind.i64 (loseM (ga (0 + p.mi.toNat)) p.size).lost,
 Value.int IntKind.i64
 (loseM (ga (0 + p.mi.toNat)) p.size).packets,
 Value.int IntKind.i64 (loseM (ga (0 + p.mi.toNat)) p.size).hits,
 Value.int IntKind.i64 (loseM (ga (0 + p.mi.toNat)) p.size).drops,
 Value.int IntKind.i64 (loseM (ga (0 + p.mi.toNat)) p.size).n,
 Value.int IntKind.i64 (loseM (ga (0 + p.mi.toNat)) p.size).sumT,
 Value.int IntKind.i64 (loseM (ga (0 + p.mi.toNat)) p.size).sumR,
 Value.int IntKind.i64 (loseM (ga (0 + p.mi.toNat)) p.size).sumTT,
 Value.int IntKind.i64 (loseM (ga (0 + p.mi.toNat)) p.size).sumTR,
 Value.int IntKind.i64
 (loseM (ga (0 + p.mi.toNat)) p.size).sumRR]),
 AB.row 3 1 k (niF a), AB.row 3 1 k (niF b),
 AB.row 3 1 k (niF c)])))))))))))))))))))))) := by kernel_rfl


end Go.Proofs.Ythckkoledhjmeaa.Ev
