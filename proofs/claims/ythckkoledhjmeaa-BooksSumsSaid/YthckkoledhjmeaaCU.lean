/-
  The abstract evaluator's trees: the statement BooksSums.
-/
import Derived.Test.YthckkoledhjmeaaCD
import Derived.Test.YthckkoledhjmeaaCO
import Derived.Test.YthckkoledhjmeaaCN
namespace Go.Proofs.Ythckkoledhjmeaa.Ev
open Go

def e7 : List (Nat × Ent) := [(7, .body o7 0), (24, .body oN 0), (23, .summ s23), (25, .summ s25), (28, .summ s28), (27, .summ u27s)]

noncomputable def t7 (room first tmo : Int) (ns z : Nat) (f : Nat → Sq) : T (AV × Heap) := callT Try.prog (entL e7) 4 7 [.d (.int .i64 room), .d (.int .u64 first), .d (.int .i64 tmo), .e (.s (.sl 0 4 0 ns z))] [.ro 4 ns (sqF f)] fun r H' => .ret (r, H')

theorem t7_eq (room first tmo : Int) (ns z : Nat) (f : Nat → Sq) : t7 room first tmo ns z f =
    T.ite (nbE room tmo != 0) (T.ret (AV.e (EV.s (SV.c (Value.bool true))), [AB.ro 4 ns (sqF f)]))
 (T.ite (decide ((↑ns : Int) ≤ 150))
 (T.code 1 (loopAt Try.prog 7 0).loop
 { fr := [AV.e (EV.s (SV.d (Value.int IntKind.i64 room))), AV.e (EV.s (SV.d (Value.int IntKind.u64 first))), AV.e (EV.s (SV.d (Value.int IntKind.i64 tmo))), AV.e (EV.s (SV.sl 0 4 0 ns z)), AV.tup [], AV.tup [], AV.tup [], AV.tup [], AV.e (EV.s (SV.c (Value.bool false))), AV.e (EV.s (SV.ptr 1 0)), AV.e (EV.s (SV.c (Value.int IntKind.i64 0))), AV.e (EV.s (SV.ptr 5 0)), AV.e (EV.s (SV.c (Value.int IntKind.i64 0))), AV.tup [EV.s (SV.ptr 1 0), EV.s (SV.c (Value.int IntKind.i64 0))], AV.e (EV.s (SV.d (Value.int IntKind.i64 room))), AV.e (EV.s (SV.d (Value.int IntKind.u64 first))), AV.e (EV.s (SV.d (Value.int IntKind.i64 tmo))), AV.tup [EV.s (SV.ptr 1 0), EV.s (SV.c (Value.int IntKind.i64 0))], AV.e (EV.s (SV.ptr 1 0)), AV.e (EV.s (SV.c (Value.int IntKind.i64 0))), AV.e (EV.s (SV.ptr 1 0)), AV.e (EV.s (SV.c (Value.bool false))), AV.e (EV.s (SV.c (Value.bool false))), AV.e (EV.s (SV.sl 0 4 0 ns z)), AV.e (EV.s (SV.c (Value.bool true))), AV.e (EV.s (SV.c (Value.bool false))), AV.e (EV.s (SV.c (Value.bool false))), AV.e (EV.s (SV.c (Value.bool false))), AV.e (EV.s (SV.c (Value.int IntKind.i64 0))), AV.e (EV.s (SV.c (Value.bool false))), AV.e (EV.s (SV.c (Value.bool false))), AV.tup [], AV.e (EV.agg [SV.c (Value.slice none 0 0), SV.c (Value.int IntKind.i64 0), SV.c (Value.slice none 0 0), SV.c (Value.slice none 0 0), SV.c (Value.slice none 0 0)]), AV.e (EV.s (SV.ptr 5 0)), AV.tup [], AV.tup [], AV.tup [], AV.tup [], AV.tup [], AV.tup [], AV.tup [], AV.tup [], AV.tup [], AV.tup [], AV.tup [], AV.tup [], AV.tup [], AV.tup [], AV.tup [], AV.tup [], AV.tup [], AV.tup [], AV.tup [], AV.tup [], AV.tup [], AV.tup [], AV.tup [], AV.tup [], AV.tup [], AV.tup [], AV.tup [], AV.tup [], AV.tup [], AV.tup [], AV.tup []], H := [AB.ro 4 ns (sqF f), AB.cells 95 [SV.ptr 2 0, SV.d (Value.int IntKind.i64 0), SV.sl 4 15 0 0 0, SV.d (Value.int IntKind.i64 0), SV.d (Value.int IntKind.i64 tmo)], AB.cells 86 [SV.d (Value.int IntKind.i64 (newL room first).room), SV.d (Value.int IntKind.u64 (newL room first).first), SV.d (Value.int IntKind.u64 (newL room first).next), SV.d (Value.int IntKind.i64 0), SV.mp 3], AB.pm [], AB.row 80 15 0 (miG []), AB.cells 60 [SV.c (Value.slice none 0 0), SV.c (Value.int IntKind.i64 0), SV.c (Value.slice none 0 0), SV.c (Value.slice none 0 0), SV.c (Value.slice none 0 0)]] : St }
 (T.go [false, true] (t7 room first tmo ns z f)).kont)
 (T.ret (AV.e (EV.s (SV.c (Value.bool true))), [AB.ro 4 ns (sqF f)]))) := by kernel_rfl


def H7 (ns : Nat) (f : Nat → Sq) (L : LSt) (m : Nat) (g : Nat → List Value) (now id tmo : Int) (n : Nat) (ga : Nat → List Value) (taken : Int) (k : Nat) (a b c : Nat → List Value) : Heap :=
  [.ro 4 ns (sqF f), .cells 95 [.ptr 2 0, .d (.int .i64 now), .sl 4 15 0 m 0, .d (.int .i64 id), .d (.int .i64 tmo)], .cells 86 (lc L 3), .pm L.es, .row 80 15 m g,
   .cells 60 [.sl 6 15 0 n 0, .d (.int .i64 taken), .sl 7 1 0 k 0, .sl 8 1 0 k 0, .sl 9 1 0 k 0], .row 80 15 n ga, .row 3 1 k a, .row 3 1 k b, .row 3 1 k c]

def x7 (first : Int) (ns z : Nat) (i : Int) : List AV := [.d (.int .u64 first), .e (.s (.sl 0 4 0 ns z)), .e (.s (.ptr 1 0)), .e (.s (.ptr 5 0)), .d (.int .i64 i)]

noncomputable def t7b (first : Int) (ns z : Nat) (f : Nat → Sq) (L : LSt) (m : Nat) (g : Nat → Mi) (now id tmo : Int) (n : Nat) (ga : Nat → Mi) (taken : Int) (k : Nat) (a b c : Nat → Int) (i : Int) (vs : Nat → Value) : T (Exit × List AV × Heap) := bodyT Try.prog e7 3 o7 1 (loopAt Try.prog 7 0) [1, 3, 9, 11, 12] 65 (x7 first ns z i) (H7 ns f L m (miF g) now id tmo n (miF ga) taken k (niF a) (niF b) (niF c)) vs

theorem t7b_eq (first : Int) (ns z : Nat) (f : Nat → Sq) (L : LSt) (m : Nat) (g : Nat → Mi) (now id tmo : Int) (n : Nat) (ga : Nat → Mi) (taken : Int) (k : Nat) (a b c : Nat → Int) (i : Int) (vs : Nat → Value) : t7b first ns z f L m g now id tmo n ga taken k a b c i vs =
    T.ite (decide (i < (↑ns : Int)))
 (T.need (0 ≤ i ∧ i < (↑ns : Int))
 (T.need (0 + i.toNat < ns)
 (T.call 26
 [AV.e (EV.s (SV.ptr 5 0)), AV.e (EV.s (SV.ptr 1 0)),
 AV.e
 (EV.agg
 [SV.d (Value.int IntKind.i64 (f (0 + i.toNat)).kind), SV.d (Value.int IntKind.i64 (f (0 + i.toNat)).size),
 SV.d (Value.int IntKind.i64 (f (0 + i.toNat)).att),
 SV.d (Value.int IntKind.u64 (f (0 + i.toNat)).seq)]),
 AV.e (EV.s (SV.d (Value.int IntKind.u64 first)))]
 [AB.ro 4 ns (sqF f),
 AB.cells 95
 [SV.ptr 2 0, SV.d (Value.int IntKind.i64 now), SV.sl 4 15 0 m 0, SV.d (Value.int IntKind.i64 id),
 SV.d (Value.int IntKind.i64 tmo)],
 AB.cells 86
 [SV.d (Value.int IntKind.i64 L.room), SV.d (Value.int IntKind.u64 L.first),
 SV.d (Value.int IntKind.u64 L.next), SV.d (Value.int IntKind.i64 L.last), SV.mp 3],
 AB.pm L.es, AB.row 80 15 m (miF g),
 AB.cells 60
 [SV.sl 6 15 0 n 0, SV.d (Value.int IntKind.i64 taken), SV.sl 7 1 0 k 0, SV.sl 8 1 0 k 0, SV.sl 9 1 0 k 0],
 AB.row 80 15 n (miF ga), AB.row 3 1 k (niF a), AB.row 3 1 k (niF b), AB.row 3 1 k (niF c)]
 (T.go [true, true, true] (t7b first ns z f L m g now id tmo n ga taken k a b c i vs)).kontC)))
 (T.ret
 (Exit.exit 0,
 [AV.e (EV.s (SV.d (Value.int IntKind.u64 first))), AV.e (EV.s (SV.sl 0 4 0 ns z)), AV.e (EV.s (SV.ptr 1 0)),
 AV.e (EV.s (SV.ptr 5 0)), AV.e (EV.s (SV.d (Value.int IntKind.i64 i)))],
 [AB.ro 4 ns (sqF f),
 AB.cells 95
 [SV.ptr 2 0, SV.d (Value.int IntKind.i64 now), SV.sl 4 15 0 m 0, SV.d (Value.int IntKind.i64 id),
 SV.d (Value.int IntKind.i64 tmo)],
 AB.cells 86
 [SV.d (Value.int IntKind.i64 L.room), SV.d (Value.int IntKind.u64 L.first),
 SV.d (Value.int IntKind.u64 L.next), SV.d (Value.int IntKind.i64 L.last), SV.mp 3],
 AB.pm L.es, AB.row 80 15 m (miF g),
 AB.cells 60
 [SV.sl 6 15 0 n 0, SV.d (Value.int IntKind.i64 taken), SV.sl 7 1 0 k 0, SV.sl 8 1 0 k 0, SV.sl 9 1 0 k 0],
 AB.row 80 15 n (miF ga), AB.row 3 1 k (niF a), AB.row 3 1 k (niF b), AB.row 3 1 k (niF c)])) := by kernel_rfl


/-- A round goes on behind the step. -/
def H7c (ns : Nat) (f : Nat → Sq) (L : LSt) (m : Nat) (g : Nat → List Value) (now id tmo : Int) (n : Nat) (ga : Nat → List Value) (taken : Int) (k : Nat) (a b c : Nat → List Value) : Heap :=
  [.ro 4 ns (sqF f), .cells 95 [.ptr 2 0, .d (.int .i64 now), .sl 14 15 0 m 0, .d (.int .i64 id), .d (.int .i64 tmo)], .cells 86 (lc L 3), .pm L.es, .dead,
   .cells 60 [.sl 10 15 0 n 0, .d (.int .i64 taken), .sl 11 1 0 k 0, .sl 12 1 0 k 0, .sl 13 1 0 k 0], .dead, .dead, .dead, .dead, .row 80 15 n ga, .row 3 1 k a, .row 3 1 k b, .row 3 1 k c, .row 80 15 m g]

noncomputable def t7c (first : Int) (ns z : Nat) (f : Nat → Sq) (L : LSt) (m : Nat) (g : Nat → Mi) (now id tmo : Int) (n : Nat) (ga : Nat → Mi) (taken : Int) (k : Nat) (a b c : Nat → Int) (i : Int) (vs : Nat → Value) (S : LSt) (ms : Nat) (gs : Nat → Mi) (now2 id2 tmo2 : Int) (nt : Nat) (gt : Nat → Mi) (taken2 : Int) (ks : Nat) (fa fb fc : Nat → List Value) : T (Exit × List AV × Heap) := ((t7b first ns z f L m g now id tmo n ga taken k a b c i vs).go [true, true, true]).kontC (.c (.bool true)) (H7c ns f S ms (miF gs) now2 id2 tmo2 nt (miF gt) taken2 ks fa fb fc)

theorem t7c_eq (first : Int) (ns z : Nat) (f : Nat → Sq) (L : LSt) (m : Nat) (g : Nat → Mi) (now id tmo : Int) (n : Nat) (ga : Nat → Mi) (taken : Int) (k : Nat) (a b c : Nat → Int) (i : Int) (vs : Nat → Value) (S : LSt) (ms : Nat) (gs : Nat → Mi) (now2 id2 tmo2 : Int) (nt : Nat) (gt : Nat → Mi) (taken2 : Int) (ks : Nat) (fa fb fc : Nat → List Value) : t7c first ns z f L m g now id tmo n ga taken k a b c i vs S ms gs now2 id2 tmo2 nt gt taken2 ks fa fb fc =
    T.need (0 ≤ taken2 ∧ taken2 ≤ (↑nt : Int) ∧ (↑nt : Int) ≤ (↑nt : Int))
 (T.need
 ((ms = ms ∧ MiRow ms (miF gs)) ∧
 { L := S, now := now2, ms := rowMi ms (miF gs), id := id2, tmo := tmo2 : BSt }.Ok ∧
 anyB { L := S, now := now2, ms := rowMi ms (miF gs), id := id2, tmo := tmo2 : BSt })
 (T.need
 (some
 (AB.cells 60
 [SV.sl 10 15 0 nt 0, SV.d (Value.int IntKind.i64 taken2), SV.sl 11 1 0 ks 0, SV.sl 12 1 0 ks 0,
 SV.sl 13 1 0 ks 0]) =
 some
 (AB.cells 60
 [SV.sl 10 15 0 nt 0, SV.d (Value.int IntKind.i64 taken2), SV.sl 11 1 0 ks 0, SV.sl 12 1 0 ks 0,
 SV.sl 13 1 0 ks 0]))
 (T.need
 (some
 (AB.cells 60
 [SV.sl 10 15 0 nt 0, SV.d (Value.int IntKind.i64 taken2), SV.sl 11 1 0 ks 0, SV.sl 12 1 0 ks 0,
 SV.sl 13 1 0 ks 0]) =
 some
 (AB.cells 60
 [SV.sl 10 15 0 nt 0, SV.d (Value.int IntKind.i64 taken2), SV.sl 11 1 0 ks 0, SV.sl 12 1 0 ks 0,
 SV.sl 13 1 0 ks 0]))
 (T.need
 (((rowMi ms (miF gs)).length ≤ (rowMi ms (miF gs)).length ∧
 0 + taken2.toNat + ((↑nt : Int).toNat - taken2.toNat) ≤ nt ∧ (rowMi ms (miF gs)).length ≤ most) ∧
 MiRow (rowMi ms (miF gs)).length (miG (rowMi ms (miF gs))) ∧ MiRow nt (miF gt))
 (T.ite
 (sameMi (rowMi ms (miF gs)).length (fun x => decMi (miG (rowMi ms (miF gs)) x))
 ((↑nt : Int).toNat - taken2.toNat) fun x => decMi (miF gt (0 + taken2.toNat + x)))
 (T.ret
 (Exit.normal,
 [AV.e (EV.s (SV.d (Value.int IntKind.u64 first))), AV.e (EV.s (SV.sl 0 4 0 ns z)),
 AV.e (EV.s (SV.ptr 1 0)), AV.e (EV.s (SV.ptr 5 0)),
 AV.e (EV.s (SV.d (Value.int IntKind.i64 (IntKind.i64.wrap (i + 1)))))],
 [AB.ro 4 ns (sqF f),
 AB.cells 95
 [SV.ptr 2 0, SV.d (Value.int IntKind.i64 now2), SV.sl 15 15 0 (rowMi ms (miF gs)).length 0,
 SV.d (Value.int IntKind.i64 id2), SV.d (Value.int IntKind.i64 tmo2)],
 AB.cells 86
 [SV.d (Value.int IntKind.i64 S.room), SV.d (Value.int IntKind.u64 S.first),
 SV.d (Value.int IntKind.u64 S.next), SV.d (Value.int IntKind.i64 S.last), SV.mp 3],
 AB.pm S.es, AB.dead,
 AB.cells 60
 [SV.sl 10 15 0 nt 0, SV.d (Value.int IntKind.i64 taken2), SV.sl 11 1 0 ks 0, SV.sl 12 1 0 ks 0,
 SV.sl 13 1 0 ks 0],
 AB.dead, AB.dead, AB.dead, AB.dead, AB.row 80 15 nt (miF gt), AB.row 3 1 ks fa, AB.row 3 1 ks fb,
 AB.row 3 1 ks fc, AB.dead, AB.row 80 15 (rowMi ms (miF gs)).length (miG (rowMi ms (miF gs))),
 AB.row 80 15 (rowMi ms (miF gs)).length (miG (rowMi ms (miF gs)))]))
 (T.ret
 (Exit.ret,
 [AV.e (EV.s (SV.d (Value.int IntKind.u64 first))), AV.e (EV.s (SV.sl 0 4 0 ns z)),
 AV.e (EV.s (SV.ptr 1 0)), AV.e (EV.s (SV.ptr 5 0)), AV.e (EV.s (SV.d (Value.int IntKind.i64 i)))],
 [AB.ro 4 ns (sqF f),
 AB.cells 95
 [SV.ptr 2 0, SV.d (Value.int IntKind.i64 now2), SV.sl 15 15 0 (rowMi ms (miF gs)).length 0,
 SV.d (Value.int IntKind.i64 id2), SV.d (Value.int IntKind.i64 tmo2)],
 AB.cells 86
 [SV.d (Value.int IntKind.i64 S.room), SV.d (Value.int IntKind.u64 S.first),
 SV.d (Value.int IntKind.u64 S.next), SV.d (Value.int IntKind.i64 S.last), SV.mp 3],
 AB.pm S.es, AB.dead,
 AB.cells 60
 [SV.sl 10 15 0 nt 0, SV.d (Value.int IntKind.i64 taken2), SV.sl 11 1 0 ks 0, SV.sl 12 1 0 ks 0,
 SV.sl 13 1 0 ks 0],
 AB.dead, AB.dead, AB.dead, AB.dead, AB.row 80 15 nt (miF gt), AB.row 3 1 ks fa, AB.row 3 1 ks fb,
 AB.row 3 1 ks fc, AB.dead, AB.row 80 15 (rowMi ms (miF gs)).length (miG (rowMi ms (miF gs))),
 AB.row 80 15 (rowMi ms (miF gs)).length (miG (rowMi ms (miF gs)))]))))))) := by kernel_rfl


noncomputable def t7k (room first tmo : Int) (ns z : Nat) (f : Nat → Sq) (L : LSt) (m : Nat) (g : Nat → Mi) (now id tmo2 : Int) (n : Nat) (ga : Nat → Mi) (taken : Int) (k : Nat) (a b c : Nat → Int) (i : Int) (vs : Nat → Value) : T (AV × Heap) := ((t7 room first tmo ns z f).go [false, true]).kont (.exit 0) ⟨fat [1, 3, 9, 11, 12] vs (x7 first ns z i) 65 0, H7 ns f L m (miF g) now id tmo2 n (miF ga) taken k (niF a) (niF b) (niF c)⟩

theorem t7k_eq (room first tmo : Int) (ns z : Nat) (f : Nat → Sq) (L : LSt) (m : Nat) (g : Nat → Mi) (now id tmo2 : Int) (n : Nat) (ga : Nat → Mi) (taken : Int) (k : Nat) (a b c : Nat → Int) (i : Int) (vs : Nat → Value) : t7k room first tmo ns z f L m g now id tmo2 n ga taken k a b c i vs =
    T.ret (AV.e (EV.s (SV.c (Value.bool true))), [AB.ro 4 ns (sqF f)]) := by kernel_rfl


theorem kl7 : codeB o7 (loopAt Try.prog 7 0) = true := by kernel_rfl

end Go.Proofs.Ythckkoledhjmeaa.Ev
