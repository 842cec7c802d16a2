/-
  The abstract evaluator's trees: a step is done, and tallied.
-/
import Derived.Test.YthckkoledhjmeaaCN
import Derived.Test.YthckkoledhjmeaaCA
namespace Go.Proofs.Ythckkoledhjmeaa.Ev
open Go

def e26 : List (Nat × Ent) := [(26, .body o26 0), (48, .body o48 0), (32, .summ s32), (33, .summ s33), (34, .summ s34), (35, .summ s35), (36, .summ s36), (37, .summ s37)]

def H26 (L : LSt) (m : Nat) (g : Nat → List Value) (now id tmo : Int) (n : Nat) (ga : Nat → List Value) (taken : Int) (k : Nat) (a b c : Nat → List Value) : Heap :=
  [.cells 95 [.ptr 1 0, .d (.int .i64 now), .sl 3 15 0 m 0, .d (.int .i64 id), .d (.int .i64 tmo)], .cells 86 (lc L 2), .pm L.es, .row 80 15 m g,
   .cells 60 [.sl 5 15 0 n 0, .d (.int .i64 taken), .sl 6 1 0 k 0, .sl 7 1 0 k 0, .sl 8 1 0 k 0], .row 80 15 n ga, .row 3 1 k a, .row 3 1 k b, .row 3 1 k c]

noncomputable def t26 (L : LSt) (m : Nat) (g : Nat → Mi) (now id tmo : Int) (n : Nat) (ga : Nat → Mi) (taken : Int) (k : Nat) (a b c : Nat → Int) (kd size att seq first : Int) : T (AV × Heap) := callT Try.prog (entL e26) 3 26 [.e (.s (.ptr 4 0)), .e (.s (.ptr 0 0)), .e (.agg [.d (.int .i64 kd), .d (.int .i64 size), .d (.int .i64 att), .d (.int .u64 seq)]), .d (.int .u64 first)] (H26 L m (miF g) now id tmo n (miF ga) taken k (niF a) (niF b) (niF c)) fun r H' => .ret (r, H')

theorem t26_eq (L : LSt) (m : Nat) (g : Nat → Mi) (now id tmo : Int) (n : Nat) (ga : Nat → Mi) (taken : Int) (k : Nat) (a b c : Nat → Int) (kd size att seq first : Int) : t26 L m g now id tmo n ga taken k a b c kd size att seq first =
    T.ite (kd == 0)
 (T.need
 ((m = m ∧ MiRow m (miF g)) ∧
 { L := L, now := now, ms := rowMi m (miF g), id := id, tmo := tmo : BSt }.Ok ∧
 fewIds { L := L, now := now, ms := rowMi m (miF g), id := id, tmo := tmo : BSt })
 (T.ite (begE { L := L, now := now, ms := rowMi m (miF g), id := id, tmo := tmo : BSt } att != 0)
 (T.ret
 (AV.e (EV.s (SV.c (Value.bool true))),
 [AB.cells 95
 [SV.ptr 1 0,
 SV.d
 (Value.int IntKind.i64
 (begB { L := L, now := now, ms := rowMi m (miF g), id := id, tmo := tmo : BSt } att).now),
 SV.sl 10 15 0
 (begB { L := L, now := now, ms := rowMi m (miF g), id := id, tmo := tmo : BSt } att).ms.length 0,
 SV.d
 (Value.int IntKind.i64
 (begB { L := L, now := now, ms := rowMi m (miF g), id := id, tmo := tmo : BSt } att).id),
 SV.d
 (Value.int IntKind.i64
 (begB { L := L, now := now, ms := rowMi m (miF g), id := id, tmo := tmo : BSt } att).tmo)],
 AB.cells 86
 [SV.d
 (Value.int IntKind.i64
 (begB { L := L, now := now, ms := rowMi m (miF g), id := id, tmo := tmo : BSt } att).L.room),
 SV.d
 (Value.int IntKind.u64
 (begB { L := L, now := now, ms := rowMi m (miF g), id := id, tmo := tmo : BSt } att).L.first),
 SV.d
 (Value.int IntKind.u64
 (begB { L := L, now := now, ms := rowMi m (miF g), id := id, tmo := tmo : BSt } att).L.next),
 SV.d
 (Value.int IntKind.i64
 (begB { L := L, now := now, ms := rowMi m (miF g), id := id, tmo := tmo : BSt } att).L.last),
 SV.mp 2],
 AB.pm (begB { L := L, now := now, ms := rowMi m (miF g), id := id, tmo := tmo : BSt } att).L.es, AB.dead,
 AB.cells 60
 [SV.sl 5 15 0 n 0, SV.d (Value.int IntKind.i64 taken), SV.sl 6 1 0 k 0, SV.sl 7 1 0 k 0, SV.sl 8 1 0 k 0],
 AB.row 80 15 n (miF ga), AB.row 3 1 k (niF a), AB.row 3 1 k (niF b), AB.row 3 1 k (niF c),
 AB.cells 63
 [SV.d (Value.int IntKind.i64 kd), SV.d (Value.int IntKind.i64 size), SV.d (Value.int IntKind.i64 att),
 SV.d (Value.int IntKind.u64 seq)],
 AB.row 80 15 (begB { L := L, now := now, ms := rowMi m (miF g), id := id, tmo := tmo : BSt } att).ms.length
 (miG (begB { L := L, now := now, ms := rowMi m (miF g), id := id, tmo := tmo : BSt } att).ms)]))
 (T.call 45
 [AV.e (EV.s (SV.ptr 4 0)),
 AV.e
 (EV.s
 (SV.d
 (Value.int IntKind.i64
 (begN { L := L, now := now, ms := rowMi m (miF g), id := id, tmo := tmo : BSt } att)))),
 AV.e (EV.s (SV.d (Value.int IntKind.i64 att)))]
 [AB.cells 95
 [SV.ptr 1 0,
 SV.d
 (Value.int IntKind.i64
 (begB { L := L, now := now, ms := rowMi m (miF g), id := id, tmo := tmo : BSt } att).now),
 SV.sl 10 15 0
 (begB { L := L, now := now, ms := rowMi m (miF g), id := id, tmo := tmo : BSt } att).ms.length 0,
 SV.d
 (Value.int IntKind.i64
 (begB { L := L, now := now, ms := rowMi m (miF g), id := id, tmo := tmo : BSt } att).id),
 SV.d
 (Value.int IntKind.i64
 (begB { L := L, now := now, ms := rowMi m (miF g), id := id, tmo := tmo : BSt } att).tmo)],
 AB.cells 86
 [SV.d
 (Value.int IntKind.i64
 (begB { L := L, now := now, ms := rowMi m (miF g), id := id, tmo := tmo : BSt } att).L.room),
 SV.d
 (Value.int IntKind.u64
 (begB { L := L, now := now, ms := rowMi m (miF g), id := id, tmo := tmo : BSt } att).L.first),
 SV.d
 (Value.int IntKind.u64
 (begB { L := L, now := now, ms := rowMi m (miF g), id := id, tmo := tmo : BSt } att).L.next),
 SV.d
 (Value.int IntKind.i64
 (begB { L := L, now := now, ms := rowMi m (miF g), id := id, tmo := tmo : BSt } att).L.last),
 SV.mp 2],
 AB.pm (begB { L := L, now := now, ms := rowMi m (miF g), id := id, tmo := tmo : BSt } att).L.es, AB.dead,
 AB.cells 60
 [SV.sl 5 15 0 n 0, SV.d (Value.int IntKind.i64 taken), SV.sl 6 1 0 k 0, SV.sl 7 1 0 k 0, SV.sl 8 1 0 k 0],
 AB.row 80 15 n (miF ga), AB.row 3 1 k (niF a), AB.row 3 1 k (niF b), AB.row 3 1 k (niF c),
 AB.cells 63
 [SV.d (Value.int IntKind.i64 kd), SV.d (Value.int IntKind.i64 size), SV.d (Value.int IntKind.i64 att),
 SV.d (Value.int IntKind.u64 seq)],
 AB.row 80 15 (begB { L := L, now := now, ms := rowMi m (miF g), id := id, tmo := tmo : BSt } att).ms.length
 (miG (begB { L := L, now := now, ms := rowMi m (miF g), id := id, tmo := tmo : BSt } att).ms)]
 (T.go [true, true, false] (t26 L m g now id tmo n ga taken k a b c kd size att seq first)).kontC)))
 (T.ite (kd == 1)
 (T.need
 ((m = m ∧ MiRow m (miF g)) ∧
 { L := L, now := now, ms := rowMi m (miF g), id := id, tmo := tmo : BSt }.Ok ∧
 anyB { L := L, now := now, ms := rowMi m (miF g), id := id, tmo := tmo : BSt })
 (T.ite (sbE { L := L, now := now, ms := rowMi m (miF g), id := id, tmo := tmo : BSt } size att != 0)
 (T.ret
 (AV.e (EV.s (SV.c (Value.bool true))),
 [AB.cells 95
 [SV.ptr 1 0,
 SV.d
 (Value.int IntKind.i64
 (sbB { L := L, now := now, ms := rowMi m (miF g), id := id, tmo := tmo : BSt } (size, att).fst
 (size, att).snd).now),
 SV.sl 10 15 0
 (sbB { L := L, now := now, ms := rowMi m (miF g), id := id, tmo := tmo : BSt } (size, att).fst
 (size, att).snd).ms.length
 0,
 SV.d
 (Value.int IntKind.i64
 (sbB { L := L, now := now, ms := rowMi m (miF g), id := id, tmo := tmo : BSt } (size, att).fst
 (size, att).snd).id),
 SV.d
 (Value.int IntKind.i64
 (sbB { L := L, now := now, ms := rowMi m (miF g), id := id, tmo := tmo : BSt } (size, att).fst
 (size, att).snd).tmo)],
 AB.cells 86
 [SV.d
 (Value.int IntKind.i64
 (sbB { L := L, now := now, ms := rowMi m (miF g), id := id, tmo := tmo : BSt } (size, att).fst
 (size, att).snd).L.room),
 SV.d
 (Value.int IntKind.u64
 (sbB { L := L, now := now, ms := rowMi m (miF g), id := id, tmo := tmo : BSt } (size, att).fst
 (size, att).snd).L.first),
 SV.d
 (Value.int IntKind.u64
 (sbB { L := L, now := now, ms := rowMi m (miF g), id := id, tmo := tmo : BSt } (size, att).fst
 (size, att).snd).L.next),
 SV.d
 (Value.int IntKind.i64
 (sbB { L := L, now := now, ms := rowMi m (miF g), id := id, tmo := tmo : BSt } (size, att).fst
 (size, att).snd).L.last),
 SV.mp 2],
 AB.pm
 (sbB { L := L, now := now, ms := rowMi m (miF g), id := id, tmo := tmo : BSt } (size, att).fst
 (size, att).snd).L.es,
 AB.dead,
 AB.cells 60
 [SV.sl 5 15 0 n 0, SV.d (Value.int IntKind.i64 taken), SV.sl 6 1 0 k 0, SV.sl 7 1 0 k 0,
 SV.sl 8 1 0 k 0],
 AB.row 80 15 n (miF ga), AB.row 3 1 k (niF a), AB.row 3 1 k (niF b), AB.row 3 1 k (niF c),
 AB.cells 63
 [SV.d (Value.int IntKind.i64 kd), SV.d (Value.int IntKind.i64 size), SV.d (Value.int IntKind.i64 att),
 SV.d (Value.int IntKind.u64 seq)],
 AB.row 80 15
 (sbB { L := L, now := now, ms := rowMi m (miF g), id := id, tmo := tmo : BSt } (size, att).fst
 (size, att).snd).ms.length
 (miG
 (sbB { L := L, now := now, ms := rowMi m (miF g), id := id, tmo := tmo : BSt } (size, att).fst
 (size, att).snd).ms)]))
 (T.call 46
 [AV.e (EV.s (SV.ptr 4 0)),
 AV.e
 (EV.s
 (SV.d
 (Value.int IntKind.u64
 (IntKind.u64.wrap
 (sbN { L := L, now := now, ms := rowMi m (miF g), id := id, tmo := tmo : BSt } size att -
 first))))),
 AV.e (EV.s (SV.d (Value.int IntKind.i64 size))), AV.e (EV.s (SV.d (Value.int IntKind.i64 att)))]
 [AB.cells 95
 [SV.ptr 1 0,
 SV.d
 (Value.int IntKind.i64
 (sbB { L := L, now := now, ms := rowMi m (miF g), id := id, tmo := tmo : BSt } (size, att).fst
 (size, att).snd).now),
 SV.sl 10 15 0
 (sbB { L := L, now := now, ms := rowMi m (miF g), id := id, tmo := tmo : BSt } (size, att).fst
 (size, att).snd).ms.length
 0,
 SV.d
 (Value.int IntKind.i64
 (sbB { L := L, now := now, ms := rowMi m (miF g), id := id, tmo := tmo : BSt } (size, att).fst
 (size, att).snd).id),
 SV.d
 (Value.int IntKind.i64
 (sbB { L := L, now := now, ms := rowMi m (miF g), id := id, tmo := tmo : BSt } (size, att).fst
 (size, att).snd).tmo)],
 AB.cells 86
 [SV.d
 (Value.int IntKind.i64
 (sbB { L := L, now := now, ms := rowMi m (miF g), id := id, tmo := tmo : BSt } (size, att).fst
 (size, att).snd).L.room),
 SV.d
 (Value.int IntKind.u64
 (sbB { L := L, now := now, ms := rowMi m (miF g), id := id, tmo := tmo : BSt } (size, att).fst
 (size, att).snd).L.first),
 SV.d
 (Value.int IntKind.u64
 (sbB { L := L, now := now, ms := rowMi m (miF g), id := id, tmo := tmo : BSt } (size, att).fst
 (size, att).snd).L.next),
 SV.d
 (Value.int IntKind.i64
 (sbB { L := L, now := now, ms := rowMi m (miF g), id := id, tmo := tmo : BSt } (size, att).fst
 (size, att).snd).L.last),
 SV.mp 2],
 AB.pm
 (sbB { L := L, now := now, ms := rowMi m (miF g), id := id, tmo := tmo : BSt } (size, att).fst
 (size, att).snd).L.es,
 AB.dead,
 AB.cells 60
 [SV.sl 5 15 0 n 0, SV.d (Value.int IntKind.i64 taken), SV.sl 6 1 0 k 0, SV.sl 7 1 0 k 0, SV.sl 8 1 0 k 0],
 AB.row 80 15 n (miF ga), AB.row 3 1 k (niF a), AB.row 3 1 k (niF b), AB.row 3 1 k (niF c),
 AB.cells 63
 [SV.d (Value.int IntKind.i64 kd), SV.d (Value.int IntKind.i64 size), SV.d (Value.int IntKind.i64 att),
 SV.d (Value.int IntKind.u64 seq)],
 AB.row 80 15
 (sbB { L := L, now := now, ms := rowMi m (miF g), id := id, tmo := tmo : BSt } (size, att).fst
 (size, att).snd).ms.length
 (miG
 (sbB { L := L, now := now, ms := rowMi m (miF g), id := id, tmo := tmo : BSt } (size, att).fst
 (size, att).snd).ms)]
 (T.go [false, true, true, false] (t26 L m g now id tmo n ga taken k a b c kd size att seq first)).kontC)))
 (T.ite (kd == 2)
 (T.need
 ((m = m ∧ MiRow m (miF g)) ∧
 { L := L, now := now, ms := rowMi m (miF g), id := id, tmo := tmo : BSt }.Ok ∧
 anyB { L := L, now := now, ms := rowMi m (miF g), id := id, tmo := tmo : BSt })
 (T.ite (enE { L := L, now := now, ms := rowMi m (miF g), id := id, tmo := tmo : BSt } seq att != 0)
 (T.ret
 (AV.e (EV.s (SV.c (Value.bool true))),
 [AB.cells 95
 [SV.ptr 1 0,
 SV.d
 (Value.int IntKind.i64
 (akB { L := L, now := now, ms := rowMi m (miF g), id := id, tmo := tmo : BSt } (seq, att).fst
 (seq, att).snd).now),
 SV.sl 10 15 0
 (akB { L := L, now := now, ms := rowMi m (miF g), id := id, tmo := tmo : BSt } (seq, att).fst
 (seq, att).snd).ms.length
 0,
 SV.d
 (Value.int IntKind.i64
 (akB { L := L, now := now, ms := rowMi m (miF g), id := id, tmo := tmo : BSt } (seq, att).fst
 (seq, att).snd).id),
 SV.d
 (Value.int IntKind.i64
 (akB { L := L, now := now, ms := rowMi m (miF g), id := id, tmo := tmo : BSt } (seq, att).fst
 (seq, att).snd).tmo)],
 AB.cells 86
 [SV.d
 (Value.int IntKind.i64
 (akB { L := L, now := now, ms := rowMi m (miF g), id := id, tmo := tmo : BSt } (seq, att).fst
 (seq, att).snd).L.room),
 SV.d
 (Value.int IntKind.u64
 (akB { L := L, now := now, ms := rowMi m (miF g), id := id, tmo := tmo : BSt } (seq, att).fst
 (seq, att).snd).L.first),
 SV.d
 (Value.int IntKind.u64
 (akB { L := L, now := now, ms := rowMi m (miF g), id := id, tmo := tmo : BSt } (seq, att).fst
 (seq, att).snd).L.next),
 SV.d
 (Value.int IntKind.i64
 (akB { L := L, now := now, ms := rowMi m (miF g), id := id, tmo := tmo : BSt } (seq, att).fst
 (seq, att).snd).L.last),
 SV.mp 2],
 AB.pm
 (akB { L := L, now := now, ms := rowMi m (miF g), id := id, tmo := tmo : BSt } (seq, att).fst
 (seq, att).snd).L.es,
 AB.dead,
 AB.cells 60
 [SV.sl 5 15 0 n 0, SV.d (Value.int IntKind.i64 taken), SV.sl 6 1 0 k 0, SV.sl 7 1 0 k 0,
 SV.sl 8 1 0 k 0],
 AB.row 80 15 n (miF ga), AB.row 3 1 k (niF a), AB.row 3 1 k (niF b), AB.row 3 1 k (niF c),
 AB.cells 63
 [SV.d (Value.int IntKind.i64 kd), SV.d (Value.int IntKind.i64 size), SV.d (Value.int IntKind.i64 att),
 SV.d (Value.int IntKind.u64 seq)],
 AB.row 80 15
 (akB { L := L, now := now, ms := rowMi m (miF g), id := id, tmo := tmo : BSt } (seq, att).fst
 (seq, att).snd).ms.length
 (miG
 (akB { L := L, now := now, ms := rowMi m (miF g), id := id, tmo := tmo : BSt } (seq, att).fst
 (seq, att).snd).ms)]))
 (T.ite ((enP { L := L, now := now, ms := rowMi m (miF g), id := id, tmo := tmo : BSt } seq att).seq == seq)
 (T.call 47
 [AV.e (EV.s (SV.ptr 4 0)),
 AV.e
 (EV.s
 (SV.d
 (Value.int IntKind.u64
 (IntKind.u64.wrap
 ((enP { L := L, now := now, ms := rowMi m (miF g), id := id, tmo := tmo : BSt } seq att).seq -
 first))))),
 AV.e
 (EV.agg
 [SV.d
 (Value.int IntKind.u64
 (enP { L := L, now := now, ms := rowMi m (miF g), id := id, tmo := tmo : BSt } seq att).seq),
 SV.d
 (Value.int IntKind.i64
 (enP { L := L, now := now, ms := rowMi m (miF g), id := id, tmo := tmo : BSt } seq att).mi),
 SV.d
 (Value.int IntKind.i64
 (enP { L := L, now := now, ms := rowMi m (miF g), id := id, tmo := tmo : BSt } seq att).size),
 SV.d
 (Value.int IntKind.i64
 (enP { L := L, now := now, ms := rowMi m (miF g), id := id, tmo := tmo : BSt } seq
 att).sent)]),
 AV.e (EV.s (SV.d (Value.int IntKind.i64 att)))]
 [AB.cells 95
 [SV.ptr 1 0,
 SV.d
 (Value.int IntKind.i64
 (akB { L := L, now := now, ms := rowMi m (miF g), id := id, tmo := tmo : BSt } (seq, att).fst
 (seq, att).snd).now),
 SV.sl 10 15 0
 (akB { L := L, now := now, ms := rowMi m (miF g), id := id, tmo := tmo : BSt } (seq, att).fst
 (seq, att).snd).ms.length
 0,
 SV.d
 (Value.int IntKind.i64
 (akB { L := L, now := now, ms := rowMi m (miF g), id := id, tmo := tmo : BSt } (seq, att).fst
 (seq, att).snd).id),
 SV.d
 (Value.int IntKind.i64
 (akB { L := L, now := now, ms := rowMi m (miF g), id := id, tmo := tmo : BSt } (seq, att).fst
 (seq, att).snd).tmo)],
 AB.cells 86
 [SV.d
 (Value.int IntKind.i64
 (akB { L := L, now := now, ms := rowMi m (miF g), id := id, tmo := tmo : BSt } (seq, att).fst
 (seq, att).snd).L.room),
 SV.d
 (Value.int IntKind.u64
 (akB { L := L, now := now, ms := rowMi m (miF g), id := id, tmo := tmo : BSt } (seq, att).fst
 (seq, att).snd).L.first),
 SV.d
 (Value.int IntKind.u64
 (akB { L := L, now := now, ms := rowMi m (miF g), id := id, tmo := tmo : BSt } (seq, att).fst
 (seq, att).snd).L.next),
 SV.d
 (Value.int IntKind.i64
 (akB { L := L, now := now, ms := rowMi m (miF g), id := id, tmo := tmo : BSt } (seq, att).fst
 (seq, att).snd).L.last),
 SV.mp 2],
 AB.pm
 (akB { L := L, now := now, ms := rowMi m (miF g), id := id, tmo := tmo : BSt } (seq, att).fst
 (seq, att).snd).L.es,
 AB.dead,
 AB.cells 60
 [SV.sl 5 15 0 n 0, SV.d (Value.int IntKind.i64 taken), SV.sl 6 1 0 k 0, SV.sl 7 1 0 k 0,
 SV.sl 8 1 0 k 0],
 AB.row 80 15 n (miF ga), AB.row 3 1 k (niF a), AB.row 3 1 k (niF b), AB.row 3 1 k (niF c),
 AB.cells 63
 [SV.d (Value.int IntKind.i64 kd), SV.d (Value.int IntKind.i64 size), SV.d (Value.int IntKind.i64 att),
 SV.d (Value.int IntKind.u64 seq)],
 AB.row 80 15
 (akB { L := L, now := now, ms := rowMi m (miF g), id := id, tmo := tmo : BSt } (seq, att).fst
 (seq, att).snd).ms.length
 (miG
 (akB { L := L, now := now, ms := rowMi m (miF g), id := id, tmo := tmo : BSt } (seq, att).fst
 (seq, att).snd).ms),
 AB.cells 36
 [SV.d
 (Value.int IntKind.u64
 (enP { L := L, now := now, ms := rowMi m (miF g), id := id, tmo := tmo : BSt } seq att).seq),
 SV.d
 (Value.int IntKind.i64
 (enP { L := L, now := now, ms := rowMi m (miF g), id := id, tmo := tmo : BSt } seq att).mi),
 SV.d
 (Value.int IntKind.i64
 (enP { L := L, now := now, ms := rowMi m (miF g), id := id, tmo := tmo : BSt } seq att).size),
 SV.d
 (Value.int IntKind.i64
 (enP { L := L, now := now, ms := rowMi m (miF g), id := id, tmo := tmo : BSt } seq att).sent)]]
 (T.go [false, false, true, true, false, true]
 (t26 L m g now id tmo n ga taken k a b c kd size att seq first)).kontC)
 (T.ret
 (AV.e (EV.s (SV.c (Value.bool false))),
 [AB.cells 95
 [SV.ptr 1 0,
 SV.d
 (Value.int IntKind.i64
 (akB { L := L, now := now, ms := rowMi m (miF g), id := id, tmo := tmo : BSt } (seq, att).fst
 (seq, att).snd).now),
 SV.sl 10 15 0
 (akB { L := L, now := now, ms := rowMi m (miF g), id := id, tmo := tmo : BSt } (seq, att).fst
 (seq, att).snd).ms.length
 0,
 SV.d
 (Value.int IntKind.i64
 (akB { L := L, now := now, ms := rowMi m (miF g), id := id, tmo := tmo : BSt } (seq, att).fst
 (seq, att).snd).id),
 SV.d
 (Value.int IntKind.i64
 (akB { L := L, now := now, ms := rowMi m (miF g), id := id, tmo := tmo : BSt } (seq, att).fst
 (seq, att).snd).tmo)],
 AB.cells 86
 [SV.d
 (Value.int IntKind.i64
 (akB { L := L, now := now, ms := rowMi m (miF g), id := id, tmo := tmo : BSt } (seq, att).fst
 (seq, att).snd).L.room),
 SV.d
 (Value.int IntKind.u64
 (akB { L := L, now := now, ms := rowMi m (miF g), id := id, tmo := tmo : BSt } (seq, att).fst
 (seq, att).snd).L.first),
 SV.d
 (Value.int IntKind.u64
 (akB { L := L, now := now, ms := rowMi m (miF g), id := id, tmo := tmo : BSt } (seq, att).fst
 (seq, att).snd).L.next),
 SV.d
 (Value.int IntKind.i64
 (akB { L := L, now := now, ms := rowMi m (miF g), id := id, tmo := tmo : BSt } (seq, att).fst
 (seq, att).snd).L.last),
 SV.mp 2],
 AB.pm
 (akB { L := L, now := now, ms := rowMi m (miF g), id := id, tmo := tmo : BSt } (seq, att).fst
 (seq, att).snd).L.es,
 AB.dead,
 AB.cells 60
 [SV.sl 5 15 0 n 0, SV.d (Value.int IntKind.i64 taken), SV.sl 6 1 0 k 0, SV.sl 7 1 0 k 0,
 SV.sl 8 1 0 k 0],
 AB.row 80 15 n (miF ga), AB.row 3 1 k (niF a), AB.row 3 1 k (niF b), AB.row 3 1 k (niF c),
 AB.cells 63
 [SV.d (Value.int IntKind.i64 kd), SV.d (Value.int IntKind.i64 size),
 SV.d (Value.int IntKind.i64 att), SV.d (Value.int IntKind.u64 seq)],
 AB.row 80 15
 (akB { L := L, now := now, ms := rowMi m (miF g), id := id, tmo := tmo : BSt } (seq, att).fst
 (seq, att).snd).ms.length
 (miG
 (akB { L := L, now := now, ms := rowMi m (miF g), id := id, tmo := tmo : BSt } (seq, att).fst
 (seq, att).snd).ms)])))))
 (T.ite (kd == 3)
 (T.need
 ((m = m ∧ MiRow m (miF g)) ∧
 { L := L, now := now, ms := rowMi m (miF g), id := id, tmo := tmo : BSt }.Ok ∧
 anyB { L := L, now := now, ms := rowMi m (miF g), id := id, tmo := tmo : BSt })
 (T.ite (enE { L := L, now := now, ms := rowMi m (miF g), id := id, tmo := tmo : BSt } seq att != 0)
 (T.ret
 (AV.e (EV.s (SV.c (Value.bool true))),
 [AB.cells 95
 [SV.ptr 1 0,
 SV.d
 (Value.int IntKind.i64
 (loB { L := L, now := now, ms := rowMi m (miF g), id := id, tmo := tmo : BSt } (seq, att).fst
 (seq, att).snd).now),
 SV.sl 10 15 0
 (loB { L := L, now := now, ms := rowMi m (miF g), id := id, tmo := tmo : BSt } (seq, att).fst
 (seq, att).snd).ms.length
 0,
 SV.d
 (Value.int IntKind.i64
 (loB { L := L, now := now, ms := rowMi m (miF g), id := id, tmo := tmo : BSt } (seq, att).fst
 (seq, att).snd).id),
 SV.d
 (Value.int IntKind.i64
 (loB { L := L, now := now, ms := rowMi m (miF g), id := id, tmo := tmo : BSt } (seq, att).fst
 (seq, att).snd).tmo)],
 AB.cells 86
 [SV.d
 (Value.int IntKind.i64
 (loB { L := L, now := now, ms := rowMi m (miF g), id := id, tmo := tmo : BSt } (seq, att).fst
 (seq, att).snd).L.room),
 SV.d
 (Value.int IntKind.u64
 (loB { L := L, now := now, ms := rowMi m (miF g), id := id, tmo := tmo : BSt } (seq, att).fst
 (seq, att).snd).L.first),
 SV.d
 (Value.int IntKind.u64
 (loB { L := L, now := now, ms := rowMi m (miF g), id := id, tmo := tmo : BSt } (seq, att).fst
 (seq, att).snd).L.next),
 SV.d
 (Value.int IntKind.i64
 (loB { L := L, now := now, ms := rowMi m (miF g), id := id, tmo := tmo : BSt } (seq, att).fst
 (seq, att).snd).L.last),
 SV.mp 2],
 AB.pm
 (loB { L := L, now := now, ms := rowMi m (miF g), id := id, tmo := tmo : BSt } (seq, att).fst
 (seq, att).snd).L.es,
 AB.dead,
 AB.cells 60
 [SV.sl 5 15 0 n 0, SV.d (Value.int IntKind.i64 taken), SV.sl 6 1 0 k 0, SV.sl 7 1 0 k 0,
 SV.sl 8 1 0 k 0],
 AB.row 80 15 n (miF ga), AB.row 3 1 k (niF a), AB.row 3 1 k (niF b), AB.row 3 1 k (niF c),
 AB.cells 63
 [SV.d (Value.int IntKind.i64 kd), SV.d (Value.int IntKind.i64 size),
 SV.d (Value.int IntKind.i64 att), SV.d (Value.int IntKind.u64 seq)],
 AB.row 80 15
 (loB { L := L, now := now, ms := rowMi m (miF g), id := id, tmo := tmo : BSt } (seq, att).fst
 (seq, att).snd).ms.length
 (miG
 (loB { L := L, now := now, ms := rowMi m (miF g), id := id, tmo := tmo : BSt } (seq, att).fst
 (seq, att).snd).ms)]))
 (T.ite ((enP { L := L, now := now, ms := rowMi m (miF g), id := id, tmo := tmo : BSt } seq att).seq == seq)
 (T.call 47
 [AV.e (EV.s (SV.ptr 4 0)),
 AV.e
 (EV.s
 (SV.d
 (Value.int IntKind.u64
 (IntKind.u64.wrap
 ((enP { L := L, now := now, ms := rowMi m (miF g), id := id, tmo := tmo : BSt } seq
 att).seq -
 first))))),
 AV.e
 (EV.agg
 [SV.d
 (Value.int IntKind.u64
 (enP { L := L, now := now, ms := rowMi m (miF g), id := id, tmo := tmo : BSt } seq
 att).seq),
 SV.d
 (Value.int IntKind.i64
 (enP { L := L, now := now, ms := rowMi m (miF g), id := id, tmo := tmo : BSt } seq att).mi),
 SV.d
 (Value.int IntKind.i64
 (enP { L := L, now := now, ms := rowMi m (miF g), id := id, tmo := tmo : BSt } seq
 att).size),
 SV.d
 (Value.int IntKind.i64
 (enP { L := L, now := now, ms := rowMi m (miF g), id := id, tmo := tmo : BSt } seq
 att).sent)]),
 AV.e (EV.s (SV.c (Value.int IntKind.i64 (-1))))]
 [AB.cells 95
 [SV.ptr 1 0,
 SV.d
 (Value.int IntKind.i64
 (loB { L := L, now := now, ms := rowMi m (miF g), id := id, tmo := tmo : BSt } (seq, att).fst
 (seq, att).snd).now),
 SV.sl 10 15 0
 (loB { L := L, now := now, ms := rowMi m (miF g), id := id, tmo := tmo : BSt } (seq, att).fst
 (seq, att).snd).ms.length
 0,
 SV.d
 (Value.int IntKind.i64
 (loB { L := L, now := now, ms := rowMi m (miF g), id := id, tmo := tmo : BSt } (seq, att).fst
 (seq, att).snd).id),
 SV.d
 (Value.int IntKind.i64
 (loB { L := L, now := now, ms := rowMi m (miF g), id := id, tmo := tmo : BSt } (seq, att).fst
 (seq, att).snd).tmo)],
 AB.cells 86
 [SV.d
 (Value.int IntKind.i64
 (loB { L := L, now := now, ms := rowMi m (miF g), id := id, tmo := tmo : BSt } (seq, att).fst
 (seq, att).snd).L.room),
 SV.d
 (Value.int IntKind.u64
 (loB { L := L, now := now, ms := rowMi m (miF g), id := id, tmo := tmo : BSt } (seq, att).fst
 (seq, att).snd).L.first),
 SV.d
 (Value.int IntKind.u64
 (loB { L := L, now := now, ms := rowMi m (miF g), id := id, tmo := tmo : BSt } (seq, att).fst
 (seq, att).snd).L.next),
 SV.d
 (Value.int IntKind.i64
 (loB { L := L, now := now, ms := rowMi m (miF g), id := id, tmo := tmo : BSt } (seq, att).fst
 (seq, att).snd).L.last),
 SV.mp 2],
 AB.pm
 (loB { L := L, now := now, ms := rowMi m (miF g), id := id, tmo := tmo : BSt } (seq, att).fst
 (seq, att).snd).L.es,
 AB.dead,
 AB.cells 60
 [SV.sl 5 15 0 n 0, SV.d (Value.int IntKind.i64 taken), SV.sl 6 1 0 k 0, SV.sl 7 1 0 k 0,
 SV.sl 8 1 0 k 0],
 AB.row 80 15 n (miF ga), AB.row 3 1 k (niF a), AB.row 3 1 k (niF b), AB.row 3 1 k (niF c),
 AB.cells 63
 [SV.d (Value.int IntKind.i64 kd), SV.d (Value.int IntKind.i64 size),
 SV.d (Value.int IntKind.i64 att), SV.d (Value.int IntKind.u64 seq)],
 AB.row 80 15
 (loB { L := L, now := now, ms := rowMi m (miF g), id := id, tmo := tmo : BSt } (seq, att).fst
 (seq, att).snd).ms.length
 (miG
 (loB { L := L, now := now, ms := rowMi m (miF g), id := id, tmo := tmo : BSt } (seq, att).fst
 (seq, att).snd).ms),
 AB.cells 36
 [SV.d
 (Value.int IntKind.u64
 (enP { L := L, now := now, ms := rowMi m (miF g), id := id, tmo := tmo : BSt } seq att).seq),
 SV.d
 (Value.int IntKind.i64
 (enP { L := L, now := now, ms := rowMi m (miF g), id := id, tmo := tmo : BSt } seq att).mi),
 SV.d
 (Value.int IntKind.i64
 (enP { L := L, now := now, ms := rowMi m (miF g), id := id, tmo := tmo : BSt } seq att).size),
 SV.d
 (Value.int IntKind.i64
 (enP { L := L, now := now, ms := rowMi m (miF g), id := id, tmo := tmo : BSt } seq
 att).sent)]]
 (T.go [false, false, false, true, true, false, true]
 (t26 L m g now id tmo n ga taken k a b c kd size att seq first)).kontC)
 (T.ret
 (AV.e (EV.s (SV.c (Value.bool false))),
 [AB.cells 95
 [SV.ptr 1 0,
 SV.d
 (Value.int IntKind.i64
 (loB { L := L, now := now, ms := rowMi m (miF g), id := id, tmo := tmo : BSt }
 (seq, att).fst (seq, att).snd).now),
 SV.sl 10 15 0
 (loB { L := L, now := now, ms := rowMi m (miF g), id := id, tmo := tmo : BSt } (seq, att).fst
 (seq, att).snd).ms.length
 0,
 SV.d
 (Value.int IntKind.i64
 (loB { L := L, now := now, ms := rowMi m (miF g), id := id, tmo := tmo : BSt }
 (seq, att).fst (seq, att).snd).id),
 SV.d
 (Value.int IntKind.i64
 (loB { L := L, now := now, ms := rowMi m (miF g), id := id, tmo := tmo : BSt }
 (seq, att).fst (seq, att).snd).tmo)],
 AB.cells 86
 [SV.d
 (Value.int IntKind.i64
 (loB { L := L, now := now, ms := rowMi m (miF g), id := id, tmo := tmo : BSt }
 (seq, att).fst (seq, att).snd).L.room),
 SV.d
 (Value.int IntKind.u64
 (loB { L := L, now := now, ms := rowMi m (miF g), id := id, tmo := tmo : BSt }
 (seq, att).fst (seq, att).snd).L.first),
 SV.d
 (Value.int IntKind.u64
 (loB { L := L, now := now, ms := rowMi m (miF g), id := id, tmo := tmo : BSt }
 (seq, att).fst (seq, att).snd).L.next),
 SV.d
 (Value.int IntKind.i64
 (loB { L := L, now := now, ms := rowMi m (miF g), id := id, tmo := tmo : BSt }
 (seq, att).fst (seq, att).snd).L.last),
 SV.mp 2],
 AB.pm
 (loB { L := L, now := now, ms := rowMi m (miF g), id := id, tmo := tmo : BSt } (seq, att).fst
 (seq, att).snd).L.es,
 AB.dead,
 AB.cells 60
 [SV.sl 5 15 0 n 0, SV.d (Value.int IntKind.i64 taken), SV.sl 6 1 0 k 0, SV.sl 7 1 0 k 0,
 SV.sl 8 1 0 k 0],
 AB.row 80 15 n (miF ga), AB.row 3 1 k (niF a), AB.row 3 1 k (niF b), AB.row 3 1 k (niF c),
 AB.cells 63
 [SV.d (Value.int IntKind.i64 kd), SV.d (Value.int IntKind.i64 size),
 SV.d (Value.int IntKind.i64 att), SV.d (Value.int IntKind.u64 seq)],
 AB.row 80 15
 (loB { L := L, now := now, ms := rowMi m (miF g), id := id, tmo := tmo : BSt } (seq, att).fst
 (seq, att).snd).ms.length
 (miG
 (loB { L := L, now := now, ms := rowMi m (miF g), id := id, tmo := tmo : BSt } (seq, att).fst
 (seq, att).snd).ms)])))))
 (T.ite (kd == 4)
 (T.need
 ((m = m ∧ MiRow m (miF g)) ∧
 { L := L, now := now, ms := rowMi m (miF g), id := id, tmo := tmo : BSt }.Ok ∧
 anyB { L := L, now := now, ms := rowMi m (miF g), id := id, tmo := tmo : BSt })
 (T.code 9 (loopAt Try.prog 26 0).loop
 { fr := [AV.e (EV.s (SV.ptr 4 0)), AV.e (EV.s (SV.ptr 0 0)), AV.e (EV.agg [SV.d (Value.int IntKind.i64 kd), SV.d (Value.int IntKind.i64 size), SV.d (Value.int IntKind.i64 att), SV.d (Value.int IntKind.u64 seq)]), AV.e (EV.s (SV.d (Value.int IntKind.u64 first))), AV.tup [], AV.tup [], AV.e (EV.s (SV.ptr 9 0)), AV.tup [], AV.e (EV.s (SV.c (Value.bool false))), AV.tup [], AV.tup [], AV.tup [], AV.tup [], AV.tup [], AV.tup [], AV.tup [], AV.tup [], AV.e (EV.s (SV.sl 11 4 0 (exP { L := L, now := now, ms := rowMi m (miF g), id := id, tmo := tmo : BSt } att).length 0)), AV.e (EV.s (SV.d (Value.int IntKind.i64 (exE { L := L, now := now, ms := rowMi m (miF g), id := id, tmo := tmo : BSt } att)))), AV.e (EV.s (SV.c (Value.int IntKind.i64 0))), AV.tup [], AV.tup [], AV.e (EV.s (SV.ptr 9 0)), AV.e (EV.s (SV.d (Value.int IntKind.i64 kd))), AV.e (EV.s (SV.c (Value.bool false))), AV.e (EV.s (SV.c (Value.bool false))), AV.tup [], AV.tup [], AV.tup [], AV.tup [], AV.tup [], AV.tup [], AV.tup [], AV.tup [], AV.tup [], AV.tup [], AV.tup [], AV.tup [], AV.tup [], AV.tup [], AV.tup [], AV.tup [], AV.e (EV.s (SV.c (Value.bool false))), AV.e (EV.s (SV.c (Value.bool false))), AV.tup [], AV.tup [], AV.tup [], AV.tup [], AV.tup [], AV.tup [], AV.tup [], AV.tup [], AV.tup [], AV.tup [], AV.tup [], AV.tup [], AV.tup [], AV.tup [], AV.tup [], AV.tup [], AV.tup [], AV.tup [], AV.tup [], AV.tup [], AV.tup [], AV.tup [], AV.e (EV.s (SV.c (Value.bool false))), AV.e (EV.s (SV.c (Value.bool false))), AV.tup [], AV.tup [], AV.tup [], AV.tup [], AV.tup [], AV.tup [], AV.tup [], AV.tup [], AV.tup [], AV.tup [], AV.tup [], AV.tup [], AV.tup [], AV.tup [], AV.tup [], AV.tup [], AV.tup [], AV.tup [], AV.tup [], AV.tup [], AV.tup [], AV.tup [], AV.tup [], AV.tup [], AV.tup [], AV.tup [], AV.tup [], AV.tup [], AV.tup [], AV.e (EV.s (SV.c (Value.bool false))), AV.e (EV.s (SV.c (Value.bool false))), AV.tup [], AV.tup [], AV.tup [], AV.tup [], AV.tup [], AV.tup [], AV.tup [], AV.tup [], AV.tup [], AV.tup [], AV.tup [], AV.tup [], AV.tup [], AV.tup [], AV.tup [], AV.tup [], AV.tup [], AV.tup [], AV.tup [], AV.tup [], AV.tup [], AV.tup [], AV.tup [], AV.tup [], AV.tup [], AV.tup [], AV.tup [], AV.e (EV.s (SV.c (Value.bool true))), AV.e (EV.s (SV.c (Value.bool true))), AV.tup [EV.s (SV.sl 11 4 0 (exP { L := L, now := now, ms := rowMi m (miF g), id := id, tmo := tmo : BSt } att).length 0), EV.s (SV.d (Value.int IntKind.i64 (exE { L := L, now := now, ms := rowMi m (miF g), id := id, tmo := tmo : BSt } att)))], AV.e (EV.s (SV.ptr 0 0)), AV.e (EV.s (SV.ptr 9 2)), AV.e (EV.s (SV.d (Value.int IntKind.i64 att))), AV.tup [EV.s (SV.sl 11 4 0 (exP { L := L, now := now, ms := rowMi m (miF g), id := id, tmo := tmo : BSt } att).length 0), EV.s (SV.d (Value.int IntKind.i64 (exE { L := L, now := now, ms := rowMi m (miF g), id := id, tmo := tmo : BSt } att)))], AV.e (EV.s (SV.sl 11 4 0 (exP { L := L, now := now, ms := rowMi m (miF g), id := id, tmo := tmo : BSt } att).length 0)), AV.e (EV.s (SV.d (Value.int IntKind.i64 (exE { L := L, now := now, ms := rowMi m (miF g), id := id, tmo := tmo : BSt } att)))), AV.tup [], AV.tup [], AV.tup [], AV.tup [], AV.tup [], AV.tup [], AV.tup [], AV.tup [], AV.tup [], AV.tup [], AV.tup [], AV.tup [], AV.tup [], AV.tup [], AV.tup [], AV.tup [], AV.tup [], AV.tup [], AV.tup [], AV.tup [], AV.tup [], AV.tup [], AV.tup [], AV.tup [], AV.tup [], AV.tup [], AV.tup [], AV.tup [], AV.tup []], H := [AB.cells 95 [SV.ptr 1 0, SV.d (Value.int IntKind.i64 (exB { L := L, now := now, ms := rowMi m (miF g), id := id, tmo := tmo : BSt } att).now), SV.sl 10 15 0 (exB { L := L, now := now, ms := rowMi m (miF g), id := id, tmo := tmo : BSt } att).ms.length 0, SV.d (Value.int IntKind.i64 (exB { L := L, now := now, ms := rowMi m (miF g), id := id, tmo := tmo : BSt } att).id), SV.d (Value.int IntKind.i64 (exB { L := L, now := now, ms := rowMi m (miF g), id := id, tmo := tmo : BSt } att).tmo)], AB.cells 86 [SV.d (Value.int IntKind.i64 (exB { L := L, now := now, ms := rowMi m (miF g), id := id, tmo := tmo : BSt } att).L.room), SV.d (Value.int IntKind.u64 (exB { L := L, now := now, ms := rowMi m (miF g), id := id, tmo := tmo : BSt } att).L.first), SV.d (Value.int IntKind.u64 (exB { L := L, now := now, ms := rowMi m (miF g), id := id, tmo := tmo : BSt } att).L.next), SV.d (Value.int IntKind.i64 (exB { L := L, now := now, ms := rowMi m (miF g), id := id, tmo := tmo : BSt } att).L.last), SV.mp 2], AB.pm (exB { L := L, now := now, ms := rowMi m (miF g), id := id, tmo := tmo : BSt } att).L.es, AB.dead, AB.cells 60 [SV.sl 5 15 0 n 0, SV.d (Value.int IntKind.i64 taken), SV.sl 6 1 0 k 0, SV.sl 7 1 0 k 0, SV.sl 8 1 0 k 0], AB.row 80 15 n (miF ga), AB.row 3 1 k (niF a), AB.row 3 1 k (niF b), AB.row 3 1 k (niF c), AB.cells 63 [SV.d (Value.int IntKind.i64 kd), SV.d (Value.int IntKind.i64 size), SV.d (Value.int IntKind.i64 att), SV.d (Value.int IntKind.u64 seq)], AB.row 80 15 (exB { L := L, now := now, ms := rowMi m (miF g), id := id, tmo := tmo : BSt } att).ms.length (miG (exB { L := L, now := now, ms := rowMi m (miF g), id := id, tmo := tmo : BSt } att).ms), AB.row 36 4 (exP { L := L, now := now, ms := rowMi m (miF g), id := id, tmo := tmo : BSt } att).length (pkG (exP { L := L, now := now, ms := rowMi m (miF g), id := id, tmo := tmo : BSt } att))] : St }
 (T.go [false, false, false, false, true, true]
 (t26 L m g now id tmo n ga taken k a b c kd size att seq first)).kont))
 (T.need
 ((m = m ∧ MiRow m (miF g)) ∧ { L := L, now := now, ms := rowMi m (miF g), id := id, tmo := tmo : BSt }.Ok)
 (T.ite (decide (tkP { L := L, now := now, ms := rowMi m (miF g), id := id, tmo := tmo : BSt }))
 (T.ite (decide (taken ≥ (↑n : Int)))
 (T.ret
 (AV.e (EV.s (SV.c (Value.bool false))),
 [AB.cells 95
 [SV.ptr 1 0, SV.d (Value.int IntKind.i64 now), SV.sl 10 15 0 (rowMi m (miF g)).tail.length 0,
 SV.d (Value.int IntKind.i64 id), SV.d (Value.int IntKind.i64 tmo)],
 AB.cells 86
 [SV.d (Value.int IntKind.i64 L.room), SV.d (Value.int IntKind.u64 L.first),
 SV.d (Value.int IntKind.u64 L.next), SV.d (Value.int IntKind.i64 L.last), SV.mp 2],
 AB.pm L.es, AB.dead,
 AB.cells 60
 [SV.sl 5 15 0 n 0, SV.d (Value.int IntKind.i64 taken), SV.sl 6 1 0 k 0, SV.sl 7 1 0 k 0,
 SV.sl 8 1 0 k 0],
 AB.row 80 15 n (miF ga), AB.row 3 1 k (niF a), AB.row 3 1 k (niF b), AB.row 3 1 k (niF c),
 AB.cells 63
 [SV.d (Value.int IntKind.i64 kd), SV.d (Value.int IntKind.i64 size),
 SV.d (Value.int IntKind.i64 att), SV.d (Value.int IntKind.u64 seq)],
 AB.row 80 15 (rowMi m (miF g)).tail.length (miG (rowMi m (miF g)).tail)]))
 (T.need (0 ≤ taken ∧ taken < (↑n : Int))
 (T.need (0 + taken.toNat < n)
 (T.ite
 (if true = true then
 !(((rowMi m (miF g)).getD 0 Mi.zero).id == (ga (0 + taken.toNat)).id &&
 (((rowMi m (miF g)).getD 0 Mi.zero).frm == (ga (0 + taken.toNat)).frm &&
 (((rowMi m (miF g)).getD 0 Mi.zero).to == (ga (0 + taken.toNat)).to &&
 (((rowMi m (miF g)).getD 0 Mi.zero).sent == (ga (0 + taken.toNat)).sent &&
 (((rowMi m (miF g)).getD 0 Mi.zero).acked == (ga (0 + taken.toNat)).acked &&
 (((rowMi m (miF g)).getD 0 Mi.zero).lost == (ga (0 + taken.toNat)).lost &&
 (((rowMi m (miF g)).getD 0 Mi.zero).packets == (ga (0 + taken.toNat)).packets &&
 (((rowMi m (miF g)).getD 0 Mi.zero).hits == (ga (0 + taken.toNat)).hits &&
 (((rowMi m (miF g)).getD 0 Mi.zero).drops == (ga (0 + taken.toNat)).drops &&
 (((rowMi m (miF g)).getD 0 Mi.zero).n == (ga (0 + taken.toNat)).n &&
 (((rowMi m (miF g)).getD 0 Mi.zero).sumT == (ga (0 + taken.toNat)).sumT &&
 (((rowMi m (miF g)).getD 0 Mi.zero).sumR ==
 (ga (0 + taken.toNat)).sumR &&
 (((rowMi m (miF g)).getD 0 Mi.zero).sumTT ==
 (ga (0 + taken.toNat)).sumTT &&
 (((rowMi m (miF g)).getD 0 Mi.zero).sumTR ==
 (ga (0 + taken.toNat)).sumTR &&
 (((rowMi m (miF g)).getD 0 Mi.zero).sumRR ==
 (ga (0 + taken.toNat)).sumRR &&
 true)))))))))))))))
 else
 ((rowMi m (miF g)).getD 0 Mi.zero).id == (ga (0 + taken.toNat)).id &&
 (((rowMi m (miF g)).getD 0 Mi.zero).frm == (ga (0 + taken.toNat)).frm &&
 (((rowMi m (miF g)).getD 0 Mi.zero).to == (ga (0 + taken.toNat)).to &&
 (((rowMi m (miF g)).getD 0 Mi.zero).sent == (ga (0 + taken.toNat)).sent &&
 (((rowMi m (miF g)).getD 0 Mi.zero).acked == (ga (0 + taken.toNat)).acked &&
 (((rowMi m (miF g)).getD 0 Mi.zero).lost == (ga (0 + taken.toNat)).lost &&
 (((rowMi m (miF g)).getD 0 Mi.zero).packets == (ga (0 + taken.toNat)).packets &&
 (((rowMi m (miF g)).getD 0 Mi.zero).hits == (ga (0 + taken.toNat)).hits &&
 (((rowMi m (miF g)).getD 0 Mi.zero).drops == (ga (0 + taken.toNat)).drops &&
 (((rowMi m (miF g)).getD 0 Mi.zero).n == (ga (0 + taken.toNat)).n &&
 (((rowMi m (miF g)).getD 0 Mi.zero).sumT == (ga (0 + taken.toNat)).sumT &&
 (((rowMi m (miF g)).getD 0 Mi.zero).sumR == (ga (0 + taken.toNat)).sumR &&
 (((rowMi m (miF g)).getD 0 Mi.zero).sumTT ==
 (ga (0 + taken.toNat)).sumTT &&
 (((rowMi m (miF g)).getD 0 Mi.zero).sumTR ==
 (ga (0 + taken.toNat)).sumTR &&
 (((rowMi m (miF g)).getD 0 Mi.zero).sumRR ==
 (ga (0 + taken.toNat)).sumRR &&
 true)))))))))))))))
 (T.ret
 (AV.e (EV.s (SV.c (Value.bool false))),
 [AB.cells 95
 [SV.ptr 1 0, SV.d (Value.int IntKind.i64 now),
 SV.sl 10 15 0 (rowMi m (miF g)).tail.length 0, SV.d (Value.int IntKind.i64 id),
 SV.d (Value.int IntKind.i64 tmo)],
 AB.cells 86
 [SV.d (Value.int IntKind.i64 L.room), SV.d (Value.int IntKind.u64 L.first),
 SV.d (Value.int IntKind.u64 L.next), SV.d (Value.int IntKind.i64 L.last), SV.mp 2],
 AB.pm L.es, AB.dead,
 AB.cells 60
 [SV.sl 5 15 0 n 0, SV.d (Value.int IntKind.i64 taken), SV.sl 6 1 0 k 0, SV.sl 7 1 0 k 0,
 SV.sl 8 1 0 k 0],
 AB.row 80 15 n (miF ga), AB.row 3 1 k (niF a), AB.row 3 1 k (niF b), AB.row 3 1 k (niF c),
 AB.cells 63
 [SV.d (Value.int IntKind.i64 kd), SV.d (Value.int IntKind.i64 size),
 SV.d (Value.int IntKind.i64 att), SV.d (Value.int IntKind.u64 seq)],
 AB.row 80 15 (rowMi m (miF g)).tail.length (miG (rowMi m (miF g)).tail)]))
 (T.ret
 (AV.e (EV.s (SV.c (Value.bool true))),
 [AB.cells 95
 [SV.ptr 1 0, SV.d (Value.int IntKind.i64 now),
 SV.sl 10 15 0 (rowMi m (miF g)).tail.length 0, SV.d (Value.int IntKind.i64 id),
 SV.d (Value.int IntKind.i64 tmo)],
 AB.cells 86
 [SV.d (Value.int IntKind.i64 L.room), SV.d (Value.int IntKind.u64 L.first),
 SV.d (Value.int IntKind.u64 L.next), SV.d (Value.int IntKind.i64 L.last), SV.mp 2],
 AB.pm L.es, AB.dead,
 AB.cells 60
 [SV.sl 5 15 0 n 0, SV.d (Value.int IntKind.i64 (IntKind.i64.wrap (taken + 1))),
 SV.sl 6 1 0 k 0, SV.sl 7 1 0 k 0, SV.sl 8 1 0 k 0],
 AB.row 80 15 n (miF ga), AB.row 3 1 k (niF a), AB.row 3 1 k (niF b), AB.row 3 1 k (niF c),
 AB.cells 63
 [SV.d (Value.int IntKind.i64 kd), SV.d (Value.int IntKind.i64 size),
 SV.d (Value.int IntKind.i64 att), SV.d (Value.int IntKind.u64 seq)],
 AB.row 80 15 (rowMi m (miF g)).tail.length (miG (rowMi m (miF g)).tail)]))))))
 (T.ret
 (AV.e (EV.s (SV.c (Value.bool true))),
 [AB.cells 95
 [SV.ptr 1 0, SV.d (Value.int IntKind.i64 now), SV.sl 10 15 0 (rowMi m (miF g)).length 0,
 SV.d (Value.int IntKind.i64 id), SV.d (Value.int IntKind.i64 tmo)],
 AB.cells 86
 [SV.d (Value.int IntKind.i64 L.room), SV.d (Value.int IntKind.u64 L.first),
 SV.d (Value.int IntKind.u64 L.next), SV.d (Value.int IntKind.i64 L.last), SV.mp 2],
 AB.pm L.es, AB.dead,
 AB.cells 60
 [SV.sl 5 15 0 n 0, SV.d (Value.int IntKind.i64 taken), SV.sl 6 1 0 k 0, SV.sl 7 1 0 k 0,
 SV.sl 8 1 0 k 0],
 AB.row 80 15 n (miF ga), AB.row 3 1 k (niF a), AB.row 3 1 k (niF b), AB.row 3 1 k (niF c),
 AB.cells 63
 [SV.d (Value.int IntKind.i64 kd), SV.d (Value.int IntKind.i64 size),
 SV.d (Value.int IntKind.i64 att), SV.d (Value.int IntKind.u64 seq)],
 AB.row 80 15 (rowMi m (miF g)).length (miG (rowMi m (miF g)))])))))))) := by kernel_rfl


/-- The loop over what has expired. -/
def H26e (L : LSt) (m : Nat) (g : Nat → List Value) (now id tmo : Int) (n : Nat) (ga : Nat → List Value) (taken : Int) (k : Nat) (a b c : Nat → List Value) (q : Nat) (pg : Nat → List Value) : Heap :=
  [.cells 95 [.ptr 1 0, .d (.int .i64 now), .sl 9 15 0 m 0, .d (.int .i64 id), .d (.int .i64 tmo)], .cells 86 (lc L 2), .pm L.es, .dead,
   .cells 60 [.sl 5 15 0 n 0, .d (.int .i64 taken), .sl 6 1 0 k 0, .sl 7 1 0 k 0, .sl 8 1 0 k 0], .row 80 15 n ga, .row 3 1 k a, .row 3 1 k b, .row 3 1 k c, .row 80 15 m g, .row 36 4 q pg]

def x26 (first : Int) (q : Nat) (i : Int) : List AV := [.e (.s (.ptr 4 0)), .d (.int .u64 first), .e (.s (.sl 10 4 0 q 0)), .d (.int .i64 i)]

noncomputable def t26b (L : LSt) (m : Nat) (g : Nat → Mi) (now id tmo : Int) (n : Nat) (ga : Nat → Mi) (taken : Int) (k : Nat) (a b c : Nat → Int) (q : Nat) (pf : Nat → Pkt) (first i : Int) (vs : Nat → Value) : T (Exit × List AV × Heap) := bodyT Try.prog e26 2 o26 9 (loopAt Try.prog 26 0) [0, 3, 17, 19] 164 (x26 first q i) (H26e L m (miF g) now id tmo n (miF ga) taken k (niF a) (niF b) (niF c) q (pkF pf)) vs

theorem t26b_eq (L : LSt) (m : Nat) (g : Nat → Mi) (now id tmo : Int) (n : Nat) (ga : Nat → Mi) (taken : Int) (k : Nat) (a b c : Nat → Int) (q : Nat) (pf : Nat → Pkt) (first i : Int) (vs : Nat → Value) : t26b L m g now id tmo n ga taken k a b c q pf first i vs =
    T.ite (decide (i < (↑q : Int)))
 (T.need (0 ≤ i ∧ i < (↑q : Int))
 (T.need (0 + i.toNat < q)
 (T.need (0 ≤ i ∧ i < (↑q : Int))
 (T.need (0 + i.toNat < q)
 (T.call 47
 [AV.e (EV.s (SV.ptr 4 0)),
 AV.e (EV.s (SV.d (Value.int IntKind.u64 (IntKind.u64.wrap ((pf (0 + i.toNat)).seq - first))))),
 AV.e
 (EV.agg
 [SV.d (Value.int IntKind.u64 (pf (0 + i.toNat)).seq),
 SV.d (Value.int IntKind.i64 (pf (0 + i.toNat)).mi),
 SV.d (Value.int IntKind.i64 (pf (0 + i.toNat)).size),
 SV.d (Value.int IntKind.i64 (pf (0 + i.toNat)).sent)]),
 AV.e (EV.s (SV.c (Value.int IntKind.i64 (-1))))]
 [AB.cells 95
 [SV.ptr 1 0, SV.d (Value.int IntKind.i64 now), SV.sl 9 15 0 m 0, SV.d (Value.int IntKind.i64 id),
 SV.d (Value.int IntKind.i64 tmo)],
 AB.cells 86
 [SV.d (Value.int IntKind.i64 L.room), SV.d (Value.int IntKind.u64 L.first),
 SV.d (Value.int IntKind.u64 L.next), SV.d (Value.int IntKind.i64 L.last), SV.mp 2],
 AB.pm L.es, AB.dead,
 AB.cells 60
 [SV.sl 5 15 0 n 0, SV.d (Value.int IntKind.i64 taken), SV.sl 6 1 0 k 0, SV.sl 7 1 0 k 0,
 SV.sl 8 1 0 k 0],
 AB.row 80 15 n (miF ga), AB.row 3 1 k (niF a), AB.row 3 1 k (niF b), AB.row 3 1 k (niF c),
 AB.row 80 15 m (miF g), AB.row 36 4 q (pkF pf)]
 (T.go [true, true, true, true, true] (t26b L m g now id tmo n ga taken k a b c q pf first i vs)).kontC)))))
 (T.ret
 (Exit.exit 1,
 [AV.e (EV.s (SV.ptr 4 0)), AV.e (EV.s (SV.d (Value.int IntKind.u64 first))), AV.e (EV.s (SV.sl 10 4 0 q 0)),
 AV.e (EV.s (SV.d (Value.int IntKind.i64 i)))],
 [AB.cells 95
 [SV.ptr 1 0, SV.d (Value.int IntKind.i64 now), SV.sl 9 15 0 m 0, SV.d (Value.int IntKind.i64 id),
 SV.d (Value.int IntKind.i64 tmo)],
 AB.cells 86
 [SV.d (Value.int IntKind.i64 L.room), SV.d (Value.int IntKind.u64 L.first),
 SV.d (Value.int IntKind.u64 L.next), SV.d (Value.int IntKind.i64 L.last), SV.mp 2],
 AB.pm L.es, AB.dead,
 AB.cells 60
 [SV.sl 5 15 0 n 0, SV.d (Value.int IntKind.i64 taken), SV.sl 6 1 0 k 0, SV.sl 7 1 0 k 0, SV.sl 8 1 0 k 0],
 AB.row 80 15 n (miF ga), AB.row 3 1 k (niF a), AB.row 3 1 k (niF b), AB.row 3 1 k (niF c),
 AB.row 80 15 m (miF g), AB.row 36 4 q (pkF pf)])) := by kernel_rfl


/-- What a call leaves: a step's books (their row is block 10), and a tally's places. -/
def C26 (kd size att seq : Int) (S : LSt) (ms : Nat) (gs : Nat → List Value) (now id tmo : Int) (cs : List SV) (R5 R6 R7 R8 : AB) (ex : Heap) : Heap :=
  .cells 95 [.ptr 1 0, .d (.int .i64 now), .sl 10 15 0 ms 0, .d (.int .i64 id), .d (.int .i64 tmo)] :: .cells 86 (lc S 2) :: .pm S.es :: .dead :: .cells 60 cs :: R5 :: R6 :: R7 :: R8 ::
    .cells 63 [.d (.int .i64 kd), .d (.int .i64 size), .d (.int .i64 att), .d (.int .u64 seq)] :: .row 80 15 ms gs :: ex

def K45 (kd size att seq : Int) (S : LSt) (ms : Nat) (gs : Nat → List Value) (now2 id2 tmo2 : Int) (ns : Nat) (gt : Nat → List Value) (taken2 : Int) (ks : Nat) (fa fb fc : Nat → List Value) : Heap :=
  C26 kd size att seq S ms gs now2 id2 tmo2 [.sl 11 15 0 ns 0, .d (.int .i64 taken2), .sl 6 1 0 ks 0, .sl 7 1 0 ks 0, .sl 8 1 0 ks 0] .dead (.row 3 1 ks fa) (.row 3 1 ks fb) (.row 3 1 ks fc) [.row 80 15 ns gt]
def K46 (kd size att seq : Int) (S : LSt) (ms : Nat) (gs : Nat → List Value) (now2 id2 tmo2 : Int) (ns : Nat) (gt : Nat → List Value) (taken2 : Int) (ks : Nat) (fa fb fc : Nat → List Value) : Heap :=
  C26 kd size att seq S ms gs now2 id2 tmo2 [.sl 5 15 0 ns 0, .d (.int .i64 taken2), .sl 11 1 0 ks 0, .sl 12 1 0 ks 0, .sl 13 1 0 ks 0] (.row 80 15 ns gt) .dead .dead .dead [.row 3 1 ks fa, .row 3 1 ks fb, .row 3 1 ks fc]
def K47 (kd size att seq : Int) (p : Pkt) (S : LSt) (ms : Nat) (gs : Nat → List Value) (now2 id2 tmo2 : Int) (ns : Nat) (gt : Nat → List Value) (taken2 : Int) (ks : Nat) (fa fb fc : Nat → List Value) : Heap :=
  C26 kd size att seq S ms gs now2 id2 tmo2 [.sl 5 15 0 ns 0, .d (.int .i64 taken2), .sl 6 1 0 ks 0, .sl 7 1 0 ks 0, .sl 8 1 0 ks 0] (.row 80 15 ns gt) (.row 3 1 ks fa) (.row 3 1 ks fb) (.row 3 1 ks fc) [.cells 36 p.cells]

noncomputable def t26x (L : LSt) (m : Nat) (g : Nat → Mi) (now id tmo : Int) (n : Nat) (ga : Nat → Mi) (taken : Int) (k : Nat) (a b c : Nat → Int) (kd size att seq first : Int) (S : LSt) (ms : Nat) (gs : Nat → List Value) (now2 id2 tmo2 : Int) (ns : Nat) (gt : Nat → List Value) (taken2 : Int) (ks : Nat) (fa fb fc : Nat → List Value) : T (AV × Heap) := ((t26 L m g now id tmo n ga taken k a b c kd size att seq first).go [true, true, false]).kontC (.c (.bool true)) (K45 kd size att seq S ms gs now2 id2 tmo2 ns gt taken2 ks fa fb fc)

theorem t26x_eq (L : LSt) (m : Nat) (g : Nat → Mi) (now id tmo : Int) (n : Nat) (ga : Nat → Mi) (taken : Int) (k : Nat) (a b c : Nat → Int) (kd size att seq first : Int) (S : LSt) (ms : Nat) (gs : Nat → List Value) (now2 id2 tmo2 : Int) (ns : Nat) (gt : Nat → List Value) (taken2 : Int) (ks : Nat) (fa fb fc : Nat → List Value) : t26x L m g now id tmo n ga taken k a b c kd size att seq first S ms gs now2 id2 tmo2 ns gt taken2 ks fa fb fc =
    T.ret
 (AV.e (EV.s (SV.c (Value.bool true))),
 [AB.cells 95
 [SV.ptr 1 0, SV.d (Value.int IntKind.i64 now2), SV.sl 10 15 0 ms 0, SV.d (Value.int IntKind.i64 id2),
 SV.d (Value.int IntKind.i64 tmo2)],
 AB.cells 86
 [SV.d (Value.int IntKind.i64 S.room), SV.d (Value.int IntKind.u64 S.first), SV.d (Value.int IntKind.u64 S.next),
 SV.d (Value.int IntKind.i64 S.last), SV.mp 2],
 AB.pm S.es, AB.dead,
 AB.cells 60
 [SV.sl 11 15 0 ns 0, SV.d (Value.int IntKind.i64 taken2), SV.sl 6 1 0 ks 0, SV.sl 7 1 0 ks 0, SV.sl 8 1 0 ks 0],
 AB.dead, AB.row 3 1 ks fa, AB.row 3 1 ks fb, AB.row 3 1 ks fc,
 AB.cells 63
 [SV.d (Value.int IntKind.i64 kd), SV.d (Value.int IntKind.i64 size), SV.d (Value.int IntKind.i64 att),
 SV.d (Value.int IntKind.u64 seq)],
 AB.row 80 15 ms gs, AB.row 80 15 ns gt]) := by kernel_rfl


noncomputable def t26y (L : LSt) (m : Nat) (g : Nat → Mi) (now id tmo : Int) (n : Nat) (ga : Nat → Mi) (taken : Int) (k : Nat) (a b c : Nat → Int) (kd size att seq first : Int) (S : LSt) (ms : Nat) (gs : Nat → List Value) (now2 id2 tmo2 : Int) (ns : Nat) (gt : Nat → List Value) (taken2 : Int) (ks : Nat) (fa fb fc : Nat → List Value) : T (AV × Heap) := ((t26 L m g now id tmo n ga taken k a b c kd size att seq first).go [false, true, true, false]).kontC (.c (.bool true)) (K46 kd size att seq S ms gs now2 id2 tmo2 ns gt taken2 ks fa fb fc)

theorem t26y_eq (L : LSt) (m : Nat) (g : Nat → Mi) (now id tmo : Int) (n : Nat) (ga : Nat → Mi) (taken : Int) (k : Nat) (a b c : Nat → Int) (kd size att seq first : Int) (S : LSt) (ms : Nat) (gs : Nat → List Value) (now2 id2 tmo2 : Int) (ns : Nat) (gt : Nat → List Value) (taken2 : Int) (ks : Nat) (fa fb fc : Nat → List Value) : t26y L m g now id tmo n ga taken k a b c kd size att seq first S ms gs now2 id2 tmo2 ns gt taken2 ks fa fb fc =
    T.ret
 (AV.e (EV.s (SV.c (Value.bool true))),
 [AB.cells 95
 [SV.ptr 1 0, SV.d (Value.int IntKind.i64 now2), SV.sl 10 15 0 ms 0, SV.d (Value.int IntKind.i64 id2),
 SV.d (Value.int IntKind.i64 tmo2)],
 AB.cells 86
 [SV.d (Value.int IntKind.i64 S.room), SV.d (Value.int IntKind.u64 S.first), SV.d (Value.int IntKind.u64 S.next),
 SV.d (Value.int IntKind.i64 S.last), SV.mp 2],
 AB.pm S.es, AB.dead,
 AB.cells 60
 [SV.sl 5 15 0 ns 0, SV.d (Value.int IntKind.i64 taken2), SV.sl 11 1 0 ks 0, SV.sl 12 1 0 ks 0,
 SV.sl 13 1 0 ks 0],
 AB.row 80 15 ns gt, AB.dead, AB.dead, AB.dead,
 AB.cells 63
 [SV.d (Value.int IntKind.i64 kd), SV.d (Value.int IntKind.i64 size), SV.d (Value.int IntKind.i64 att),
 SV.d (Value.int IntKind.u64 seq)],
 AB.row 80 15 ms gs, AB.row 3 1 ks fa, AB.row 3 1 ks fb, AB.row 3 1 ks fc]) := by kernel_rfl


noncomputable def t26a (L : LSt) (m : Nat) (g : Nat → Mi) (now id tmo : Int) (n : Nat) (ga : Nat → Mi) (taken : Int) (k : Nat) (a b c : Nat → Int) (kd size att seq first : Int) (S : LSt) (ms : Nat) (gs : Nat → List Value) (now2 id2 tmo2 : Int) (ns : Nat) (gt : Nat → List Value) (taken2 : Int) (ks : Nat) (fa fb fc : Nat → List Value) (p : Pkt) : T (AV × Heap) := ((t26 L m g now id tmo n ga taken k a b c kd size att seq first).go [false, false, true, true, false, true]).kontC (.c (.bool true)) (K47 kd size att seq p S ms gs now2 id2 tmo2 ns gt taken2 ks fa fb fc)

theorem t26a_eq (L : LSt) (m : Nat) (g : Nat → Mi) (now id tmo : Int) (n : Nat) (ga : Nat → Mi) (taken : Int) (k : Nat) (a b c : Nat → Int) (kd size att seq first : Int) (S : LSt) (ms : Nat) (gs : Nat → List Value) (now2 id2 tmo2 : Int) (ns : Nat) (gt : Nat → List Value) (taken2 : Int) (ks : Nat) (fa fb fc : Nat → List Value) (p : Pkt) : t26a L m g now id tmo n ga taken k a b c kd size att seq first S ms gs now2 id2 tmo2 ns gt taken2 ks fa fb fc p =
    T.ret
 (AV.e (EV.s (SV.c (Value.bool true))),
 [AB.cells 95
 [SV.ptr 1 0, SV.d (Value.int IntKind.i64 now2), SV.sl 10 15 0 ms 0, SV.d (Value.int IntKind.i64 id2),
 SV.d (Value.int IntKind.i64 tmo2)],
 AB.cells 86
 [SV.d (Value.int IntKind.i64 S.room), SV.d (Value.int IntKind.u64 S.first), SV.d (Value.int IntKind.u64 S.next),
 SV.d (Value.int IntKind.i64 S.last), SV.mp 2],
 AB.pm S.es, AB.dead,
 AB.cells 60
 [SV.sl 5 15 0 ns 0, SV.d (Value.int IntKind.i64 taken2), SV.sl 6 1 0 ks 0, SV.sl 7 1 0 ks 0, SV.sl 8 1 0 ks 0],
 AB.row 80 15 ns gt, AB.row 3 1 ks fa, AB.row 3 1 ks fb, AB.row 3 1 ks fc,
 AB.cells 63
 [SV.d (Value.int IntKind.i64 kd), SV.d (Value.int IntKind.i64 size), SV.d (Value.int IntKind.i64 att),
 SV.d (Value.int IntKind.u64 seq)],
 AB.row 80 15 ms gs]) := by kernel_rfl


noncomputable def t26l (L : LSt) (m : Nat) (g : Nat → Mi) (now id tmo : Int) (n : Nat) (ga : Nat → Mi) (taken : Int) (k : Nat) (a b c : Nat → Int) (kd size att seq first : Int) (S : LSt) (ms : Nat) (gs : Nat → List Value) (now2 id2 tmo2 : Int) (ns : Nat) (gt : Nat → List Value) (taken2 : Int) (ks : Nat) (fa fb fc : Nat → List Value) (p : Pkt) : T (AV × Heap) := ((t26 L m g now id tmo n ga taken k a b c kd size att seq first).go [false, false, false, true, true, false, true]).kontC (.c (.bool true)) (K47 kd size att seq p S ms gs now2 id2 tmo2 ns gt taken2 ks fa fb fc)

theorem t26l_eq (L : LSt) (m : Nat) (g : Nat → Mi) (now id tmo : Int) (n : Nat) (ga : Nat → Mi) (taken : Int) (k : Nat) (a b c : Nat → Int) (kd size att seq first : Int) (S : LSt) (ms : Nat) (gs : Nat → List Value) (now2 id2 tmo2 : Int) (ns : Nat) (gt : Nat → List Value) (taken2 : Int) (ks : Nat) (fa fb fc : Nat → List Value) (p : Pkt) : t26l L m g now id tmo n ga taken k a b c kd size att seq first S ms gs now2 id2 tmo2 ns gt taken2 ks fa fb fc p =
    T.ret
 (AV.e (EV.s (SV.c (Value.bool true))),
 [AB.cells 95
 [SV.ptr 1 0, SV.d (Value.int IntKind.i64 now2), SV.sl 10 15 0 ms 0, SV.d (Value.int IntKind.i64 id2),
 SV.d (Value.int IntKind.i64 tmo2)],
 AB.cells 86
 [SV.d (Value.int IntKind.i64 S.room), SV.d (Value.int IntKind.u64 S.first), SV.d (Value.int IntKind.u64 S.next),
 SV.d (Value.int IntKind.i64 S.last), SV.mp 2],
 AB.pm S.es, AB.dead,
 AB.cells 60
 [SV.sl 5 15 0 ns 0, SV.d (Value.int IntKind.i64 taken2), SV.sl 6 1 0 ks 0, SV.sl 7 1 0 ks 0, SV.sl 8 1 0 ks 0],
 AB.row 80 15 ns gt, AB.row 3 1 ks fa, AB.row 3 1 ks fb, AB.row 3 1 ks fc,
 AB.cells 63
 [SV.d (Value.int IntKind.i64 kd), SV.d (Value.int IntKind.i64 size), SV.d (Value.int IntKind.i64 att),
 SV.d (Value.int IntKind.u64 seq)],
 AB.row 80 15 ms gs]) := by kernel_rfl


noncomputable def t26e (L : LSt) (m : Nat) (g : Nat → Mi) (now id tmo : Int) (n : Nat) (ga : Nat → Mi) (taken : Int) (k : Nat) (a b c : Nat → Int) (kd size att seq first : Int) (S : LSt) (ms : Nat) (gs : Nat → List Value) (now2 id2 tmo2 : Int) (ns : Nat) (gt : Nat → List Value) (taken2 : Int) (ks : Nat) (fa fb fc : Nat → List Value) (q : Nat) (pg : Nat → List Value) (i : Int) (vs : Nat → Value) : T (AV × Heap) := ((t26 L m g now id tmo n ga taken k a b c kd size att seq first).go [false, false, false, false, true, true]).kont (.exit 1) ⟨fat [0, 3, 17, 19] vs (x26 first q i) 164 0, H26e S ms gs now2 id2 tmo2 ns gt taken2 ks fa fb fc q pg⟩

theorem t26e_eq (L : LSt) (m : Nat) (g : Nat → Mi) (now id tmo : Int) (n : Nat) (ga : Nat → Mi) (taken : Int) (k : Nat) (a b c : Nat → Int) (kd size att seq first : Int) (S : LSt) (ms : Nat) (gs : Nat → List Value) (now2 id2 tmo2 : Int) (ns : Nat) (gt : Nat → List Value) (taken2 : Int) (ks : Nat) (fa fb fc : Nat → List Value) (q : Nat) (pg : Nat → List Value) (i : Int) (vs : Nat → Value) : t26e L m g now id tmo n ga taken k a b c kd size att seq first S ms gs now2 id2 tmo2 ns gt taken2 ks fa fb fc q pg i vs =
    T.ret
 (AV.e (EV.s (SV.c (Value.bool true))),
 [AB.cells 95
 [SV.ptr 1 0, SV.d (Value.int IntKind.i64 now2), SV.sl 9 15 0 ms 0, SV.d (Value.int IntKind.i64 id2),
 SV.d (Value.int IntKind.i64 tmo2)],
 AB.cells 86
 [SV.d (Value.int IntKind.i64 S.room), SV.d (Value.int IntKind.u64 S.first), SV.d (Value.int IntKind.u64 S.next),
 SV.d (Value.int IntKind.i64 S.last), SV.mp 2],
 AB.pm S.es, AB.dead,
 AB.cells 60
 [SV.sl 5 15 0 ns 0, SV.d (Value.int IntKind.i64 taken2), SV.sl 6 1 0 ks 0, SV.sl 7 1 0 ks 0, SV.sl 8 1 0 ks 0],
 AB.row 80 15 ns gt, AB.row 3 1 ks fa, AB.row 3 1 ks fb, AB.row 3 1 ks fc, AB.row 80 15 ms gs]) := by kernel_rfl


noncomputable def t26c (L : LSt) (m : Nat) (g : Nat → Mi) (now id tmo : Int) (n : Nat) (ga : Nat → Mi) (taken : Int) (k : Nat) (a b c : Nat → Int) (q : Nat) (pf : Nat → Pkt) (first i : Int) (vs : Nat → Value) (gt : Nat → List Value) : T (Exit × List AV × Heap) := ((t26b L m g now id tmo n ga taken k a b c q pf first i vs).go [true, true, true, true, true]).kontC (.c (.bool true)) (H26e L m (miF g) now id tmo n gt taken k (niF a) (niF b) (niF c) q (pkF pf))

theorem t26c_eq (L : LSt) (m : Nat) (g : Nat → Mi) (now id tmo : Int) (n : Nat) (ga : Nat → Mi) (taken : Int) (k : Nat) (a b c : Nat → Int) (q : Nat) (pf : Nat → Pkt) (first i : Int) (vs : Nat → Value) (gt : Nat → List Value) : t26c L m g now id tmo n ga taken k a b c q pf first i vs gt =
    T.ret
 (Exit.normal,
 [AV.e (EV.s (SV.ptr 4 0)), AV.e (EV.s (SV.d (Value.int IntKind.u64 first))), AV.e (EV.s (SV.sl 10 4 0 q 0)),
 AV.e (EV.s (SV.d (Value.int IntKind.i64 (IntKind.i64.wrap (i + 1)))))],
 [AB.cells 95
 [SV.ptr 1 0, SV.d (Value.int IntKind.i64 now), SV.sl 9 15 0 m 0, SV.d (Value.int IntKind.i64 id),
 SV.d (Value.int IntKind.i64 tmo)],
 AB.cells 86
 [SV.d (Value.int IntKind.i64 L.room), SV.d (Value.int IntKind.u64 L.first), SV.d (Value.int IntKind.u64 L.next),
 SV.d (Value.int IntKind.i64 L.last), SV.mp 2],
 AB.pm L.es, AB.dead,
 AB.cells 60
 [SV.sl 5 15 0 n 0, SV.d (Value.int IntKind.i64 taken), SV.sl 6 1 0 k 0, SV.sl 7 1 0 k 0, SV.sl 8 1 0 k 0],
 AB.row 80 15 n gt, AB.row 3 1 k (niF a), AB.row 3 1 k (niF b), AB.row 3 1 k (niF c), AB.row 80 15 m (miF g),
 AB.row 36 4 q (pkF pf)]) := by kernel_rfl


theorem kl26 : codeB o26 (loopAt Try.prog 26 0) = true := by kernel_rfl

end Go.Proofs.Ythckkoledhjmeaa.Ev
