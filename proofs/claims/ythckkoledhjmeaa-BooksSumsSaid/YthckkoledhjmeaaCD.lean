/-
  The abstract evaluator's trees: the statement BooksDoes.
-/
import Derived.Test.YthckkoledhjmeaaCF
namespace Go.Proofs.Ythckkoledhjmeaa.Ev
open Go

/-- A step of a script of layer 12. -/
structure Sq where
  kind : Int
  size : Int
  att : Int
  seq : Int

def Sq.vals (s : Sq) : List Value := [.int .i64 s.kind, .int .i64 s.size, .int .i64 s.att, .int .u64 s.seq]
def sqF (f : Nat → Sq) : Nat → List Value := fun j => (f j).vals

/-- The document's rows hold. -/
def s25 (args : List AV) (H : Heap) : T (AV × Heap) :=
  match args with
  | [] => .ret (.c (.bool true), H)
  | _ => .fail

def e8 : List (Nat × Ent) := [(8, .body o8 0), (24, .body oN 0), (23, .summ s23), (29, .summ s29), (28, .summ s28), (27, .summ s27), (31, .body oN 0), (21, .body o21 0), (25, .summ s25)]

noncomputable def t8 (room first tmo : Int) (ns z : Nat) (f : Nat → Sq) : T (AV × Heap) := callT Try.prog (entL e8) 4 8 [.d (.int .i64 room), .d (.int .u64 first), .d (.int .i64 tmo), .e (.s (.sl 0 4 0 ns z))] [.ro 4 ns (sqF f)] fun r H' => .ret (r, H')

theorem t8_eq (room first tmo : Int) (ns z : Nat) (f : Nat → Sq) : t8 room first tmo ns z f =
    T.ite (decide ((↑ns : Int) ≤ 150))
 (T.ite (nbE room tmo != 0)
 (T.ite (nbE room tmo != 0)
 (T.ite (nbE room tmo != nbE room tmo) (T.ret (AV.e (EV.s (SV.c (Value.bool false))), [AB.ro 4 ns (sqF f)]))
 (T.code 1 (loopAt Try.prog 8 0).loop
 { fr := [AV.e (EV.s (SV.d (Value.int IntKind.i64 room))), AV.e (EV.s (SV.d (Value.int IntKind.u64 first))), AV.e (EV.s (SV.d (Value.int IntKind.i64 tmo))), AV.e (EV.s (SV.sl 0 4 0 ns z)), AV.tup [], AV.tup [], AV.tup [], AV.tup [], AV.e (EV.s (SV.c (Value.bool false))), AV.e (EV.s (SV.c (Value.pointer none))), AV.e (EV.s (SV.d (Value.int IntKind.i64 (nbE room tmo)))), AV.e (EV.s (SV.c (Value.pointer none))), AV.e (EV.s (SV.d (Value.int IntKind.i64 (nbE room tmo)))), AV.e (EV.s (SV.c (Value.int IntKind.i64 0))), AV.e (EV.s (SV.sl 0 4 0 ns z)), AV.e (EV.s (SV.c (Value.bool true))), AV.e (EV.s (SV.c (Value.bool false))), AV.tup [EV.s (SV.c (Value.pointer none)), EV.s (SV.d (Value.int IntKind.i64 (nbE room tmo)))], AV.e (EV.s (SV.d (Value.int IntKind.i64 room))), AV.e (EV.s (SV.d (Value.int IntKind.u64 first))), AV.e (EV.s (SV.d (Value.int IntKind.i64 tmo))), AV.tup [EV.s (SV.c (Value.pointer none)), EV.s (SV.d (Value.int IntKind.i64 (nbE room tmo)))], AV.e (EV.s (SV.c (Value.pointer none))), AV.e (EV.s (SV.d (Value.int IntKind.i64 (nbE room tmo)))), AV.tup [EV.s (SV.c (Value.pointer none)), EV.s (SV.d (Value.int IntKind.i64 (nbE room tmo)))], AV.e (EV.s (SV.d (Value.int IntKind.i64 room))), AV.e (EV.s (SV.d (Value.int IntKind.u64 first))), AV.e (EV.s (SV.d (Value.int IntKind.i64 tmo))), AV.tup [EV.s (SV.c (Value.pointer none)), EV.s (SV.d (Value.int IntKind.i64 (nbE room tmo)))], AV.e (EV.s (SV.c (Value.pointer none))), AV.e (EV.s (SV.d (Value.int IntKind.i64 (nbE room tmo)))), AV.e (EV.s (SV.d (Value.int IntKind.i64 (nbE room tmo)))), AV.e (EV.s (SV.d (Value.int IntKind.i64 (nbE room tmo)))), AV.e (EV.s (SV.c (Value.bool false))), AV.e (EV.s (SV.c (Value.bool false))), AV.e (EV.s (SV.c (Value.pointer none))), AV.e (EV.s (SV.c (Value.bool true))), AV.e (EV.s (SV.c (Value.pointer none))), AV.e (EV.s (SV.c (Value.bool true))), AV.e (EV.s (SV.c (Value.bool false))), AV.e (EV.s (SV.c (Value.bool false))), AV.tup [], AV.tup [], AV.tup [], AV.tup [], AV.tup [], AV.tup [], AV.tup [], AV.tup [], AV.tup [], AV.tup [], AV.tup [], AV.tup [], AV.tup [], AV.tup [], AV.tup [], AV.tup [], AV.tup [], AV.tup [], AV.tup [], AV.tup [], AV.tup [], AV.tup [], AV.tup [], AV.tup [], AV.tup [], AV.tup [], AV.tup [], AV.tup [], AV.tup [], AV.tup [], AV.tup [], AV.tup [], AV.tup [], AV.tup [], AV.tup [], AV.tup [], AV.tup [], AV.tup [], AV.tup [], AV.tup [], AV.tup [], AV.tup [], AV.tup [], AV.tup []], H := [AB.ro 4 ns (sqF f)] : St }
 (T.go [true, true, true, false] (t8 room first tmo ns z f)).kont))
 (T.ite (nbE room tmo != 0) (T.ret (AV.e (EV.s (SV.c (Value.bool false))), [AB.ro 4 ns (sqF f)]))
 (T.ret (AV.e (EV.s (SV.c (Value.bool false))), [AB.ro 4 ns (sqF f)]))))
 (T.ite (nbE room tmo != 0)
 (T.ite (0 != nbE room tmo) (T.ret (AV.e (EV.s (SV.c (Value.bool false))), [AB.ro 4 ns (sqF f)]))
 (T.ret (AV.e (EV.s (SV.c (Value.bool false))), [AB.ro 4 ns (sqF f)])))
 (T.code 1 (loopAt Try.prog 8 0).loop
 { fr := [AV.e (EV.s (SV.d (Value.int IntKind.i64 room))), AV.e (EV.s (SV.d (Value.int IntKind.u64 first))), AV.e (EV.s (SV.d (Value.int IntKind.i64 tmo))), AV.e (EV.s (SV.sl 0 4 0 ns z)), AV.tup [], AV.tup [], AV.tup [], AV.tup [], AV.e (EV.s (SV.c (Value.bool false))), AV.e (EV.s (SV.ptr 1 0)), AV.e (EV.s (SV.c (Value.int IntKind.i64 0))), AV.e (EV.s (SV.ptr 5 0)), AV.e (EV.s (SV.c (Value.int IntKind.i64 0))), AV.e (EV.s (SV.c (Value.int IntKind.i64 0))), AV.e (EV.s (SV.sl 0 4 0 ns z)), AV.e (EV.s (SV.c (Value.bool true))), AV.e (EV.s (SV.c (Value.bool false))), AV.tup [EV.s (SV.ptr 1 0), EV.s (SV.c (Value.int IntKind.i64 0))], AV.e (EV.s (SV.d (Value.int IntKind.i64 room))), AV.e (EV.s (SV.d (Value.int IntKind.u64 first))), AV.e (EV.s (SV.d (Value.int IntKind.i64 tmo))), AV.tup [EV.s (SV.ptr 1 0), EV.s (SV.c (Value.int IntKind.i64 0))], AV.e (EV.s (SV.ptr 1 0)), AV.e (EV.s (SV.c (Value.int IntKind.i64 0))), AV.tup [EV.s (SV.ptr 5 0), EV.s (SV.c (Value.int IntKind.i64 0))], AV.e (EV.s (SV.d (Value.int IntKind.i64 room))), AV.e (EV.s (SV.d (Value.int IntKind.u64 first))), AV.e (EV.s (SV.d (Value.int IntKind.i64 tmo))), AV.tup [EV.s (SV.ptr 5 0), EV.s (SV.c (Value.int IntKind.i64 0))], AV.e (EV.s (SV.ptr 5 0)), AV.e (EV.s (SV.c (Value.int IntKind.i64 0))), AV.e (EV.s (SV.c (Value.int IntKind.i64 0))), AV.e (EV.s (SV.c (Value.int IntKind.i64 0))), AV.e (EV.s (SV.c (Value.bool false))), AV.e (EV.s (SV.c (Value.bool false))), AV.e (EV.s (SV.ptr 1 0)), AV.e (EV.s (SV.c (Value.bool false))), AV.e (EV.s (SV.ptr 5 0)), AV.e (EV.s (SV.c (Value.bool false))), AV.e (EV.s (SV.c (Value.bool false))), AV.e (EV.s (SV.c (Value.bool false))), AV.tup [], AV.tup [], AV.tup [], AV.tup [], AV.tup [], AV.tup [], AV.tup [], AV.tup [], AV.tup [], AV.tup [], AV.tup [], AV.tup [], AV.tup [], AV.tup [], AV.tup [], AV.tup [], AV.tup [], AV.tup [], AV.tup [], AV.tup [], AV.tup [], AV.tup [], AV.tup [], AV.tup [], AV.tup [], AV.tup [], AV.tup [], AV.tup [], AV.tup [], AV.tup [], AV.tup [], AV.tup [], AV.tup [], AV.tup [], AV.tup [], AV.tup [], AV.tup [], AV.tup [], AV.tup [], AV.tup [], AV.tup [], AV.tup [], AV.tup [], AV.tup []], H := [AB.ro 4 ns (sqF f), AB.cells 95 [SV.ptr 2 0, SV.d (Value.int IntKind.i64 0), SV.sl 4 15 0 0 0, SV.d (Value.int IntKind.i64 0), SV.d (Value.int IntKind.i64 tmo)], AB.cells 86 [SV.d (Value.int IntKind.i64 (newL room first).room), SV.d (Value.int IntKind.u64 (newL room first).first), SV.d (Value.int IntKind.u64 (newL room first).next), SV.d (Value.int IntKind.i64 0), SV.mp 3], AB.pm [], AB.row 80 15 0 (miG []), AB.cells 72 [SV.ptr 6 0, SV.sl 8 15 0 0 0, SV.d (Value.int IntKind.i64 0), SV.d (Value.int IntKind.i64 tmo), SV.d (Value.int IntKind.i64 0)], AB.cells 44 [SV.d (Value.int IntKind.i64 (newL room first).room), SV.d (Value.int IntKind.u64 (newL room first).first), SV.d (Value.int IntKind.u64 (newL room first).next), SV.d (Value.int IntKind.i64 0), SV.sl 7 4 0 0 0], AB.row 36 4 0 (pkG []), AB.row 80 15 0 (miG [])] : St }
 (T.go [true, false, false] (t8 room first tmo ns z f)).kont)))
 (T.ret (AV.e (EV.s (SV.c (Value.bool true))), [AB.ro 4 ns (sqF f)])) := by kernel_rfl


def H8 (ns : Nat) (f : Nat → Sq) (L : LSt) (n : Nat) (g : Nat → List Value) (now id tmo : Int) (k : Nat) (pg : Nat → List Value) : Heap :=
  [.ro 4 ns (sqF f), .cells 95 [.ptr 2 0, .d (.int .i64 now), .sl 4 15 0 n 0, .d (.int .i64 id), .d (.int .i64 tmo)], .cells 86 (lc L 3), .pm L.es, .row 80 15 n g,
   .cells 72 [.ptr 6 0, .sl 8 15 0 n 0, .d (.int .i64 id), .d (.int .i64 tmo), .d (.int .i64 now)], .cells 44 (rc L 7 k), .row 36 4 k pg, .row 80 15 n g]

def x8 (room : Int) (ns z : Nat) (i : Int) : List AV := [.d (.int .i64 room), .e (.s (.sl 0 4 0 ns z)), .e (.s (.ptr 1 0)), .e (.s (.ptr 5 0)), .d (.int .i64 i)]

noncomputable def t8b (room : Int) (ns z : Nat) (f : Nat → Sq) (L : LSt) (n : Nat) (g : Nat → Mi) (now id tmo : Int) (k : Nat) (pg : Nat → List Value) (i : Int) (vs : Nat → Value) : T (Exit × List AV × Heap) := bodyT Try.prog e8 3 o8 1 (loopAt Try.prog 8 0) [0, 3, 9, 11, 13] 85 (x8 room ns z i) (H8 ns f L n (miF g) now id tmo k pg) vs

theorem t8b_eq (room : Int) (ns z : Nat) (f : Nat → Sq) (L : LSt) (n : Nat) (g : Nat → Mi) (now id tmo : Int) (k : Nat) (pg : Nat → List Value) (i : Int) (vs : Nat → Value) : t8b room ns z f L n g now id tmo k pg i vs =
    T.ite (decide (i < (↑ns : Int)))
 (T.need (0 ≤ i ∧ i < (↑ns : Int))
 (T.need (0 + i.toNat < ns)
 (T.call 30
 [AV.e (EV.s (SV.ptr 1 0)), AV.e (EV.s (SV.ptr 5 0)),
 AV.e
 (EV.agg
 [SV.d (Value.int IntKind.i64 (f (0 + i.toNat)).kind), SV.d (Value.int IntKind.i64 (f (0 + i.toNat)).size),
 SV.d (Value.int IntKind.i64 (f (0 + i.toNat)).att),
 SV.d (Value.int IntKind.u64 (f (0 + i.toNat)).seq)])]
 [AB.ro 4 ns (sqF f),
 AB.cells 95
 [SV.ptr 2 0, SV.d (Value.int IntKind.i64 now), SV.sl 4 15 0 n 0, SV.d (Value.int IntKind.i64 id),
 SV.d (Value.int IntKind.i64 tmo)],
 AB.cells 86
 [SV.d (Value.int IntKind.i64 L.room), SV.d (Value.int IntKind.u64 L.first),
 SV.d (Value.int IntKind.u64 L.next), SV.d (Value.int IntKind.i64 L.last), SV.mp 3],
 AB.pm L.es, AB.row 80 15 n (miF g),
 AB.cells 72
 [SV.ptr 6 0, SV.sl 8 15 0 n 0, SV.d (Value.int IntKind.i64 id), SV.d (Value.int IntKind.i64 tmo),
 SV.d (Value.int IntKind.i64 now)],
 AB.cells 44
 [SV.d (Value.int IntKind.i64 L.room), SV.d (Value.int IntKind.u64 L.first),
 SV.d (Value.int IntKind.u64 L.next), SV.d (Value.int IntKind.i64 L.last), SV.sl 7 4 0 k 0],
 AB.row 36 4 k pg, AB.row 80 15 n (miF g)]
 (T.go [true, true, true] (t8b room ns z f L n g now id tmo k pg i vs)).kontC)))
 (T.ret
 (Exit.exit 0,
 [AV.e (EV.s (SV.d (Value.int IntKind.i64 room))), AV.e (EV.s (SV.sl 0 4 0 ns z)), AV.e (EV.s (SV.ptr 1 0)),
 AV.e (EV.s (SV.ptr 5 0)), AV.e (EV.s (SV.d (Value.int IntKind.i64 i)))],
 [AB.ro 4 ns (sqF f),
 AB.cells 95
 [SV.ptr 2 0, SV.d (Value.int IntKind.i64 now), SV.sl 4 15 0 n 0, SV.d (Value.int IntKind.i64 id),
 SV.d (Value.int IntKind.i64 tmo)],
 AB.cells 86
 [SV.d (Value.int IntKind.i64 L.room), SV.d (Value.int IntKind.u64 L.first),
 SV.d (Value.int IntKind.u64 L.next), SV.d (Value.int IntKind.i64 L.last), SV.mp 3],
 AB.pm L.es, AB.row 80 15 n (miF g),
 AB.cells 72
 [SV.ptr 6 0, SV.sl 8 15 0 n 0, SV.d (Value.int IntKind.i64 id), SV.d (Value.int IntKind.i64 tmo),
 SV.d (Value.int IntKind.i64 now)],
 AB.cells 44
 [SV.d (Value.int IntKind.i64 L.room), SV.d (Value.int IntKind.u64 L.first),
 SV.d (Value.int IntKind.u64 L.next), SV.d (Value.int IntKind.i64 L.last), SV.sl 7 4 0 k 0],
 AB.row 36 4 k pg, AB.row 80 15 n (miF g)])) := by kernel_rfl


/-- A round goes on behind the answer. -/
def H8c (ns : Nat) (f : Nat → Sq) (L : LSt) (n : Nat) (g : Nat → List Value) (now id tmo : Int) (k : Nat) (pg : Nat → List Value) : Heap :=
  [.ro 4 ns (sqF f), .cells 95 [.ptr 2 0, .d (.int .i64 now), .sl 9 15 0 n 0, .d (.int .i64 id), .d (.int .i64 tmo)], .cells 86 (lc L 3), .pm L.es, .dead,
   .cells 72 [.ptr 6 0, .sl 11 15 0 n 0, .d (.int .i64 id), .d (.int .i64 tmo), .d (.int .i64 now)], .cells 44 (rc L 10 k), .dead, .dead, .row 80 15 n g, .row 36 4 k pg, .row 80 15 n g]

noncomputable def t8c (room : Int) (ns z : Nat) (f : Nat → Sq) (L : LSt) (n : Nat) (g : Nat → Mi) (now id tmo : Int) (k : Nat) (pg : Nat → List Value) (i : Int) (vs : Nat → Value) (L2 : LSt) (n2 : Nat) (g2 : Nat → Mi) (now2 id2 : Int) (k2 : Nat) (pg2 : Nat → List Value) : T (Exit × List AV × Heap) := ((t8b room ns z f L n g now id tmo k pg i vs).go [true, true, true]).kontC (.c (.bool true)) (H8c ns f L2 n2 (miF g2) now2 id2 tmo k2 pg2)

theorem t8c_eq (room : Int) (ns z : Nat) (f : Nat → Sq) (L : LSt) (n : Nat) (g : Nat → Mi) (now id tmo : Int) (k : Nat) (pg : Nat → List Value) (i : Int) (vs : Nat → Value) (L2 : LSt) (n2 : Nat) (g2 : Nat → Mi) (now2 id2 : Int) (k2 : Nat) (pg2 : Nat → List Value) : t8c room ns z f L n g now id tmo k pg i vs L2 n2 g2 now2 id2 k2 pg2 =
    T.need
 ((n2 = n2 ∧ MiRow n2 (miF g2)) ∧
 { L := L2, now := now2, ms := rowMi n2 (miF g2), id := id2, tmo := tmo : BSt }.Ok ∧
 anyB { L := L2, now := now2, ms := rowMi n2 (miF g2), id := id2, tmo := tmo : BSt })
 (T.need
 (some
 (AB.cells 72
 [SV.ptr 6 0, SV.sl 11 15 0 n2 0, SV.d (Value.int IntKind.i64 id2), SV.d (Value.int IntKind.i64 tmo),
 SV.d (Value.int IntKind.i64 now2)]) =
 some
 (AB.cells 72
 [SV.ptr 6 0, SV.sl 11 15 0 n2 0, SV.d (Value.int IntKind.i64 id2), SV.d (Value.int IntKind.i64 tmo),
 SV.d (Value.int IntKind.i64 now2)]))
 (T.need
 (((rowMi n2 (miF g2)).length ≤ (rowMi n2 (miF g2)).length ∧ n2 ≤ n2 ∧ (rowMi n2 (miF g2)).length ≤ most) ∧
 MiRow (rowMi n2 (miF g2)).length (miG (rowMi n2 (miF g2))) ∧ MiRow n2 (miF g2))
 (T.ite
 (sameMi (rowMi n2 (miF g2)).length (fun x => decMi (miG (rowMi n2 (miF g2)) x)) n2 fun x => decMi (miF g2 x))
 (T.need
 (some
 (AB.cells 44
 [SV.d (Value.int IntKind.i64 L2.room), SV.d (Value.int IntKind.u64 L2.first),
 SV.d (Value.int IntKind.u64 L2.next), SV.d (Value.int IntKind.i64 L2.last), SV.sl 10 4 0 k2 0]) =
 some
 (AB.cells 44
 [SV.d (Value.int IntKind.i64 L2.room), SV.d (Value.int IntKind.u64 L2.first),
 SV.d (Value.int IntKind.u64 L2.next), SV.d (Value.int IntKind.i64 L2.last), SV.sl 10 4 0 k2 0]))
 (T.need
 (some
 (AB.cells 72
 [SV.ptr 6 0, SV.sl 11 15 0 n2 0, SV.d (Value.int IntKind.i64 id2), SV.d (Value.int IntKind.i64 tmo),
 SV.d (Value.int IntKind.i64 now2)]) =
 some
 (AB.cells 72
 [SV.ptr 6 0, SV.sl 11 15 0 n2 0, SV.d (Value.int IntKind.i64 id2), SV.d (Value.int IntKind.i64 tmo),
 SV.d (Value.int IntKind.i64 now2)]))
 (T.ite (IntKind.i64.wrap (L2.room - (↑L2.es.length : Int)) != IntKind.i64.wrap (room - (↑k2 : Int)))
 (T.ret
 (Exit.ret,
 [AV.e (EV.s (SV.d (Value.int IntKind.i64 room))), AV.e (EV.s (SV.sl 0 4 0 ns z)),
 AV.e (EV.s (SV.ptr 1 0)), AV.e (EV.s (SV.ptr 5 0)), AV.e (EV.s (SV.d (Value.int IntKind.i64 i)))],
 [AB.ro 4 ns (sqF f),
 AB.cells 95
 [SV.ptr 2 0, SV.d (Value.int IntKind.i64 now2), SV.sl 12 15 0 (rowMi n2 (miF g2)).length 0,
 SV.d (Value.int IntKind.i64 id2), SV.d (Value.int IntKind.i64 tmo)],
 AB.cells 86
 [SV.d (Value.int IntKind.i64 L2.room), SV.d (Value.int IntKind.u64 L2.first),
 SV.d (Value.int IntKind.u64 L2.next), SV.d (Value.int IntKind.i64 L2.last), SV.mp 3],
 AB.pm L2.es, AB.dead,
 AB.cells 72
 [SV.ptr 6 0, SV.sl 11 15 0 n2 0, SV.d (Value.int IntKind.i64 id2),
 SV.d (Value.int IntKind.i64 tmo), SV.d (Value.int IntKind.i64 now2)],
 AB.cells 44
 [SV.d (Value.int IntKind.i64 L2.room), SV.d (Value.int IntKind.u64 L2.first),
 SV.d (Value.int IntKind.u64 L2.next), SV.d (Value.int IntKind.i64 L2.last), SV.sl 10 4 0 k2 0],
 AB.dead, AB.dead, AB.dead, AB.row 36 4 k2 pg2, AB.row 80 15 n2 (miF g2),
 AB.row 80 15 (rowMi n2 (miF g2)).length (miG (rowMi n2 (miF g2))),
 AB.row 80 15 (rowMi n2 (miF g2)).length (miG (rowMi n2 (miF g2)))]))
 (T.ret
 (Exit.normal,
 [AV.e (EV.s (SV.d (Value.int IntKind.i64 room))), AV.e (EV.s (SV.sl 0 4 0 ns z)),
 AV.e (EV.s (SV.ptr 1 0)), AV.e (EV.s (SV.ptr 5 0)),
 AV.e (EV.s (SV.d (Value.int IntKind.i64 (IntKind.i64.wrap (i + 1)))))],
 [AB.ro 4 ns (sqF f),
 AB.cells 95
 [SV.ptr 2 0, SV.d (Value.int IntKind.i64 now2), SV.sl 12 15 0 (rowMi n2 (miF g2)).length 0,
 SV.d (Value.int IntKind.i64 id2), SV.d (Value.int IntKind.i64 tmo)],
 AB.cells 86
 [SV.d (Value.int IntKind.i64 L2.room), SV.d (Value.int IntKind.u64 L2.first),
 SV.d (Value.int IntKind.u64 L2.next), SV.d (Value.int IntKind.i64 L2.last), SV.mp 3],
 AB.pm L2.es, AB.dead,
 AB.cells 72
 [SV.ptr 6 0, SV.sl 11 15 0 n2 0, SV.d (Value.int IntKind.i64 id2),
 SV.d (Value.int IntKind.i64 tmo), SV.d (Value.int IntKind.i64 now2)],
 AB.cells 44
 [SV.d (Value.int IntKind.i64 L2.room), SV.d (Value.int IntKind.u64 L2.first),
 SV.d (Value.int IntKind.u64 L2.next), SV.d (Value.int IntKind.i64 L2.last), SV.sl 10 4 0 k2 0],
 AB.dead, AB.dead, AB.dead, AB.row 36 4 k2 pg2, AB.row 80 15 n2 (miF g2),
 AB.row 80 15 (rowMi n2 (miF g2)).length (miG (rowMi n2 (miF g2))),
 AB.row 80 15 (rowMi n2 (miF g2)).length (miG (rowMi n2 (miF g2)))])))))
 (T.ret
 (Exit.ret,
 [AV.e (EV.s (SV.d (Value.int IntKind.i64 room))), AV.e (EV.s (SV.sl 0 4 0 ns z)), AV.e (EV.s (SV.ptr 1 0)),
 AV.e (EV.s (SV.ptr 5 0)), AV.e (EV.s (SV.d (Value.int IntKind.i64 i)))],
 [AB.ro 4 ns (sqF f),
 AB.cells 95
 [SV.ptr 2 0, SV.d (Value.int IntKind.i64 now2), SV.sl 12 15 0 (rowMi n2 (miF g2)).length 0,
 SV.d (Value.int IntKind.i64 id2), SV.d (Value.int IntKind.i64 tmo)],
 AB.cells 86
 [SV.d (Value.int IntKind.i64 L2.room), SV.d (Value.int IntKind.u64 L2.first),
 SV.d (Value.int IntKind.u64 L2.next), SV.d (Value.int IntKind.i64 L2.last), SV.mp 3],
 AB.pm L2.es, AB.dead,
 AB.cells 72
 [SV.ptr 6 0, SV.sl 11 15 0 n2 0, SV.d (Value.int IntKind.i64 id2), SV.d (Value.int IntKind.i64 tmo),
 SV.d (Value.int IntKind.i64 now2)],
 AB.cells 44
 [SV.d (Value.int IntKind.i64 L2.room), SV.d (Value.int IntKind.u64 L2.first),
 SV.d (Value.int IntKind.u64 L2.next), SV.d (Value.int IntKind.i64 L2.last), SV.sl 10 4 0 k2 0],
 AB.dead, AB.dead, AB.dead, AB.row 36 4 k2 pg2, AB.row 80 15 n2 (miF g2),
 AB.row 80 15 (rowMi n2 (miF g2)).length (miG (rowMi n2 (miF g2))),
 AB.row 80 15 (rowMi n2 (miF g2)).length (miG (rowMi n2 (miF g2)))]))))) := by kernel_rfl


def x8n (room : Int) (ns z : Nat) (i : Int) : List AV := [.d (.int .i64 room), .e (.s (.sl 0 4 0 ns z)), .c (.pointer none), .c (.pointer none), .d (.int .i64 i)]

noncomputable def t8nb (room : Int) (ns z : Nat) (f : Nat → Sq) (i : Int) (vs : Nat → Value) : T (Exit × List AV × Heap) := bodyT Try.prog e8 3 o8 1 (loopAt Try.prog 8 0) [0, 3, 9, 11, 13] 85 (x8n room ns z i) [.ro 4 ns (sqF f)] vs

theorem t8nb_eq (room : Int) (ns z : Nat) (f : Nat → Sq) (i : Int) (vs : Nat → Value) : t8nb room ns z f i vs =
    T.ite (decide (i < (↑ns : Int)))
 (T.ret
 (Exit.exit 0,
 [AV.e (EV.s (SV.d (Value.int IntKind.i64 room))), AV.e (EV.s (SV.sl 0 4 0 ns z)),
 AV.e (EV.s (SV.c (Value.pointer none))), AV.e (EV.s (SV.c (Value.pointer none))),
 AV.e (EV.s (SV.d (Value.int IntKind.i64 i)))],
 [AB.ro 4 ns (sqF f)]))
 (T.ret
 (Exit.exit 0,
 [AV.e (EV.s (SV.d (Value.int IntKind.i64 room))), AV.e (EV.s (SV.sl 0 4 0 ns z)),
 AV.e (EV.s (SV.c (Value.pointer none))), AV.e (EV.s (SV.c (Value.pointer none))),
 AV.e (EV.s (SV.d (Value.int IntKind.i64 i)))],
 [AB.ro 4 ns (sqF f)])) := by kernel_rfl


noncomputable def t8k (room first tmo : Int) (ns z : Nat) (f : Nat → Sq) (L : LSt) (n : Nat) (g : Nat → Mi) (now id tmo2 : Int) (k : Nat) (pg : Nat → List Value) (i : Int) (vs : Nat → Value) : T (AV × Heap) := ((t8 room first tmo ns z f).go [true, false, false]).kont (.exit 0) ⟨fat [0, 3, 9, 11, 13] vs (x8 room ns z i) 85 0, H8 ns f L n (miF g) now id tmo2 k pg⟩

theorem t8k_eq (room first tmo : Int) (ns z : Nat) (f : Nat → Sq) (L : LSt) (n : Nat) (g : Nat → Mi) (now id tmo2 : Int) (k : Nat) (pg : Nat → List Value) (i : Int) (vs : Nat → Value) : t8k room first tmo ns z f L n g now id tmo2 k pg i vs =
    T.ret (AV.e (EV.s (SV.c (Value.bool true))), [AB.ro 4 ns (sqF f)]) := by kernel_rfl


noncomputable def t8nk (room first tmo : Int) (ns z : Nat) (f : Nat → Sq) (i : Int) (vs : Nat → Value) : T (AV × Heap) := ((t8 room first tmo ns z f).go [true, true, true, false]).kont (.exit 0) ⟨fat [0, 3, 9, 11, 13] vs (x8n room ns z i) 85 0, [.ro 4 ns (sqF f)]⟩

theorem t8nk_eq (room first tmo : Int) (ns z : Nat) (f : Nat → Sq) (i : Int) (vs : Nat → Value) : t8nk room first tmo ns z f i vs =
    T.ret (AV.e (EV.s (SV.c (Value.bool true))), [AB.ro 4 ns (sqF f)]) := by kernel_rfl


theorem kl8 : codeB o8 (loopAt Try.prog 8 0) = true := by kernel_rfl

end Go.Proofs.Ythckkoledhjmeaa.Ev
