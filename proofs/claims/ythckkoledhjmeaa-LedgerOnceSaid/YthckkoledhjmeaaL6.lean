/-
  The statement LedgerTimes, told of the abstract evaluator's data: trees, and what they say.
-/
import Derived.Test.YthckkoledhjmeaaXN

/-
  The abstract evaluator's trees: the statement LedgerTimes.
-/
namespace Go.Proofs.Ythckkoledhjmeaa.Ev
open Go

def inF (f : Nat → Int) : Nat → List Value := fun j => [.int .i64 (f j)]

def e6 : List (Nat × Ent) := [(6, .body o6 0), (10, .summ s10), (12, .summ s12), (17, .summ s17), (19, .summ s19), (22, .summ s22)]

noncomputable def t6 (room : Int) (ns z : Nat) (f : Nat → Int) (att tmo : Int) : T (AV × Heap) := callT Try.prog (entL e6) 2 6 [.d (.int .i64 room), .e (.s (.sl 0 1 0 ns z)), .d (.int .i64 att), .d (.int .i64 tmo)] [.ro 1 ns (inF f)] fun r H' => .ret (r, H')

theorem t6_eq (room : Int) (ns z : Nat) (f : Nat → Int) (att tmo : Int) : t6 room ns z f att tmo =
    T.ite (newB room) (T.ret (AV.e (EV.s (SV.c (Value.bool true))), [AB.ro 1 ns (inF f)]))
      (T.ite (decide ((↑ns : Int) > 100)) (T.ret (AV.e (EV.s (SV.c (Value.bool true))), [AB.ro 1 ns (inF f)]))
        (T.ite (decide (att < 0)) (T.ret (AV.e (EV.s (SV.c (Value.bool true))), [AB.ro 1 ns (inF f)]))
          (T.ite (decide (att > 1099511627776)) (T.ret (AV.e (EV.s (SV.c (Value.bool true))), [AB.ro 1 ns (inF f)]))
            (T.ite (decide (tmo < 0)) (T.ret (AV.e (EV.s (SV.c (Value.bool true))), [AB.ro 1 ns (inF f)]))
              (T.ite (decide (tmo > 1099511627776)) (T.ret (AV.e (EV.s (SV.c (Value.bool true))), [AB.ro 1 ns (inF f)]))
                (T.code 1 (loopAt Try.prog 6 0).loop
                  {
                    fr :=
                      [AV.e (EV.s (SV.d (Value.int IntKind.i64 room))), AV.e (EV.s (SV.sl 0 1 0 ns z)),
                        AV.e (EV.s (SV.d (Value.int IntKind.i64 att))), AV.e (EV.s (SV.d (Value.int IntKind.i64 tmo))),
                        AV.tup [], AV.tup [], AV.tup [], AV.tup [], AV.e (EV.s (SV.c (Value.bool false))),
                        AV.e (EV.s (SV.ptr 1 0)), AV.e (EV.s (SV.c (Value.int IntKind.i64 0))),
                        AV.e (EV.s (SV.c (Value.int IntKind.i64 0))), AV.tup [], AV.tup [], AV.tup [], AV.tup [], AV.tup [],
                        AV.tup [EV.s (SV.ptr 1 0), EV.s (SV.c (Value.int IntKind.i64 0))],
                        AV.e (EV.s (SV.d (Value.int IntKind.i64 room))),
                        AV.tup [EV.s (SV.ptr 1 0), EV.s (SV.c (Value.int IntKind.i64 0))], AV.e (EV.s (SV.ptr 1 0)),
                        AV.e (EV.s (SV.c (Value.int IntKind.i64 0))), AV.e (EV.s (SV.c (Value.int IntKind.i64 0))),
                        AV.e (EV.s (SV.c (Value.bool false))), AV.e (EV.s (SV.c (Value.bool false))),
                        AV.e (EV.s (SV.ptr 1 0)), AV.e (EV.s (SV.c (Value.bool false))),
                        AV.e (EV.s (SV.c (Value.bool false))), AV.e (EV.s (SV.c (Value.bool false))),
                        AV.e (EV.s (SV.sl 0 1 0 ns z)), AV.e (EV.s (SV.d (Value.int IntKind.i64 (↑ns : Int)))),
                        AV.e (EV.s (SV.c (Value.bool false))), AV.e (EV.s (SV.c (Value.bool false))),
                        AV.e (EV.s (SV.c (Value.bool false))), AV.e (EV.s (SV.d (Value.int IntKind.i64 att))),
                        AV.e (EV.s (SV.c (Value.bool false))), AV.e (EV.s (SV.c (Value.bool false))),
                        AV.e (EV.s (SV.c (Value.bool false))), AV.e (EV.s (SV.d (Value.int IntKind.i64 att))),
                        AV.e (EV.s (SV.c (Value.bool false))), AV.e (EV.s (SV.c (Value.bool false))),
                        AV.e (EV.s (SV.c (Value.bool false))), AV.e (EV.s (SV.d (Value.int IntKind.i64 tmo))),
                        AV.e (EV.s (SV.c (Value.bool false))), AV.e (EV.s (SV.c (Value.bool false))),
                        AV.e (EV.s (SV.c (Value.bool false))), AV.e (EV.s (SV.d (Value.int IntKind.i64 tmo))),
                        AV.e (EV.s (SV.c (Value.bool false))), AV.e (EV.s (SV.c (Value.bool false))), AV.tup [], AV.tup [],
                        AV.tup [], AV.tup [], AV.tup [], AV.tup [], AV.tup [], AV.tup [], AV.tup [], AV.tup [], AV.tup [],
                        AV.tup [], AV.tup [], AV.tup [], AV.tup [], AV.tup [], AV.tup [], AV.tup [], AV.tup [], AV.tup [],
                        AV.tup [], AV.tup [], AV.tup [], AV.tup [], AV.tup [], AV.tup [], AV.tup [], AV.tup [], AV.tup [],
                        AV.tup [], AV.tup [], AV.tup [], AV.tup [], AV.tup [], AV.tup [], AV.tup [], AV.tup [], AV.tup [],
                        AV.tup [], AV.tup [], AV.tup [], AV.tup [], AV.tup [], AV.tup [], AV.tup [], AV.tup [], AV.tup [],
                        AV.tup [], AV.tup [], AV.tup [], AV.tup [], AV.tup [], AV.tup [], AV.tup [], AV.tup [], AV.tup [],
                        AV.tup [], AV.tup [], AV.tup [], AV.tup [], AV.tup [], AV.tup [], AV.tup [], AV.tup [], AV.tup [],
                        AV.tup [], AV.tup [], AV.tup [], AV.tup [], AV.tup [], AV.tup [], AV.tup [], AV.tup [], AV.tup [],
                        AV.tup [], AV.tup [], AV.tup [], AV.tup [], AV.tup [], AV.tup [], AV.tup [], AV.tup [], AV.tup [],
                        AV.tup [], AV.tup [], AV.tup [], AV.tup [], AV.tup [], AV.tup [], AV.tup [], AV.tup [], AV.tup [],
                        AV.tup [], AV.tup [], AV.tup [], AV.tup [], AV.tup [], AV.tup []],
                    H :=
                      [AB.ro 1 ns (inF f),
                        AB.cells 86
                          [SV.d (Value.int IntKind.i64 (newL room 0).room), SV.d (Value.int IntKind.u64 0),
                            SV.d (Value.int IntKind.u64 0), SV.d (Value.int IntKind.i64 0), SV.mp 2],
                        AB.pm []] :
                    St }
                  (T.go [false, false, false, false, false, false] (t6 room ns z f att tmo)).kont)))))) := by kernel_rfl


def H6 (ns : Nat) (f : Nat → Int) (L : LSt) : Heap := [.ro 1 ns (inF f), .cells 86 (lc L 2), .pm L.es]
def x6 (ns z : Nat) (att tmo i : Int) : List AV := [.e (.s (.sl 0 1 0 ns z)), .d (.int .i64 att), .d (.int .i64 tmo), .e (.s (.ptr 1 0)), .d (.int .i64 i)]

noncomputable def t6b (ns z : Nat) (f : Nat → Int) (att tmo : Int) (L : LSt) (i : Int) (vs : Nat → Value) : T (Exit × List AV × Heap) := bodyT Try.prog e6 1 o6 1 (loopAt Try.prog 6 0) [1, 2, 3, 9, 11] 147 (x6 ns z att tmo i) (H6 ns f L) vs

theorem t6b_eq (ns z : Nat) (f : Nat → Int) (att tmo : Int) (L : LSt) (i : Int) (vs : Nat → Value) : t6b ns z f att tmo L i vs =
    T.ite (decide (i < (↑ns : Int)))
      (T.need (0 ≤ i ∧ i < (↑ns : Int))
        (T.need (0 + i.toNat < ns)
          (T.need L.Ok
            (T.ret
              (Exit.normal,
                [AV.e (EV.s (SV.sl 0 1 0 ns z)), AV.e (EV.s (SV.d (Value.int IntKind.i64 att))),
                  AV.e (EV.s (SV.d (Value.int IntKind.i64 tmo))), AV.e (EV.s (SV.ptr 1 0)),
                  AV.e (EV.s (SV.d (Value.int IntKind.i64 (IntKind.i64.wrap (i + 1)))))],
                [AB.ro 1 ns (inF f),
                  AB.cells 86
                    [SV.d (Value.int IntKind.i64 (sendL L 0 1 (f (0 + i.toNat))).room),
                      SV.d (Value.int IntKind.u64 (sendL L 0 1 (f (0 + i.toNat))).first),
                      SV.d (Value.int IntKind.u64 (sendL L 0 1 (f (0 + i.toNat))).next),
                      SV.d (Value.int IntKind.i64 (sendL L 0 1 (f (0 + i.toNat))).last), SV.mp 2],
                  AB.pm (sendL L 0 1 (f (0 + i.toNat))).es])))))
      (T.ret
        (Exit.exit 0,
          [AV.e (EV.s (SV.sl 0 1 0 ns z)), AV.e (EV.s (SV.d (Value.int IntKind.i64 att))),
            AV.e (EV.s (SV.d (Value.int IntKind.i64 tmo))), AV.e (EV.s (SV.ptr 1 0)),
            AV.e (EV.s (SV.d (Value.int IntKind.i64 i)))],
          [AB.ro 1 ns (inF f),
            AB.cells 86
              [SV.d (Value.int IntKind.i64 L.room), SV.d (Value.int IntKind.u64 L.first),
                SV.d (Value.int IntKind.u64 L.next), SV.d (Value.int IntKind.i64 L.last), SV.mp 2],
            AB.pm L.es])) := by kernel_rfl


noncomputable def t6k (room : Int) (ns z : Nat) (f : Nat → Int) (att tmo : Int) (L : LSt) (i : Int) (vs : Nat → Value) : T (AV × Heap) := ((t6 room ns z f att tmo).go [false, false, false, false, false, false]).kont (.exit 0) ⟨fat [1, 2, 3, 9, 11] vs (x6 ns z att tmo i) 147 0, H6 ns f L⟩

theorem t6k_eq (room : Int) (ns z : Nat) (f : Nat → Int) (att tmo : Int) (L : LSt) (i : Int) (vs : Nat → Value) : t6k room ns z f att tmo L i vs =
    T.need L.Ok
      (T.need (L.Ok ∧ I64 att ∧ I64 tmo)
        (T.need (expL L att tmo).Ok
          (T.code 1 (loopAt Try.prog 6 1).loop
            {
              fr :=
                [AV.e (EV.s (SV.d (vs 0))), AV.e (EV.s (SV.sl 0 1 0 ns z)), AV.e (EV.s (SV.d (Value.int IntKind.i64 att))),
                  AV.e (EV.s (SV.d (Value.int IntKind.i64 tmo))), AV.e (EV.s (SV.d (vs 4))), AV.e (EV.s (SV.d (vs 5))),
                  AV.e (EV.s (SV.d (vs 6))), AV.e (EV.s (SV.d (vs 7))), AV.e (EV.s (SV.d (vs 8))), AV.e (EV.s (SV.ptr 1 0)),
                  AV.e (EV.s (SV.d (vs 10))), AV.e (EV.s (SV.d (Value.int IntKind.i64 i))),
                  AV.e (EV.s (SV.sl 3 4 0 L.es.length 0)), AV.e (EV.s (SV.sl 4 4 0 (expP L att tmo).length 0)),
                  AV.e (EV.s (SV.sl 5 4 0 (expL L att tmo).es.length 0)), AV.e (EV.s (SV.c (Value.int IntKind.i64 0))),
                  AV.e (EV.s (SV.d (vs 16))), AV.e (EV.s (SV.d (vs 17))), AV.e (EV.s (SV.d (vs 18))),
                  AV.e (EV.s (SV.d (vs 19))), AV.e (EV.s (SV.d (vs 20))), AV.e (EV.s (SV.d (vs 21))),
                  AV.e (EV.s (SV.d (vs 22))), AV.e (EV.s (SV.d (vs 23))), AV.e (EV.s (SV.d (vs 24))),
                  AV.e (EV.s (SV.d (vs 25))), AV.e (EV.s (SV.d (vs 26))), AV.e (EV.s (SV.d (vs 27))),
                  AV.e (EV.s (SV.d (vs 28))), AV.e (EV.s (SV.d (vs 29))), AV.e (EV.s (SV.d (vs 30))),
                  AV.e (EV.s (SV.d (vs 31))), AV.e (EV.s (SV.d (vs 32))), AV.e (EV.s (SV.d (vs 33))),
                  AV.e (EV.s (SV.d (vs 34))), AV.e (EV.s (SV.d (vs 35))), AV.e (EV.s (SV.d (vs 36))),
                  AV.e (EV.s (SV.d (vs 37))), AV.e (EV.s (SV.d (vs 38))), AV.e (EV.s (SV.d (vs 39))),
                  AV.e (EV.s (SV.d (vs 40))), AV.e (EV.s (SV.d (vs 41))), AV.e (EV.s (SV.d (vs 42))),
                  AV.e (EV.s (SV.d (vs 43))), AV.e (EV.s (SV.d (vs 44))), AV.e (EV.s (SV.d (vs 45))),
                  AV.e (EV.s (SV.d (vs 46))), AV.e (EV.s (SV.d (vs 47))), AV.e (EV.s (SV.d (vs 48))),
                  AV.e (EV.s (SV.d (vs 49))), AV.e (EV.s (SV.d (vs 50))), AV.e (EV.s (SV.d (vs 51))),
                  AV.e (EV.s (SV.d (vs 52))), AV.e (EV.s (SV.d (vs 53))), AV.e (EV.s (SV.d (vs 54))),
                  AV.e (EV.s (SV.d (vs 55))), AV.e (EV.s (SV.d (vs 56))), AV.e (EV.s (SV.d (vs 57))),
                  AV.e (EV.s (SV.d (vs 58))), AV.e (EV.s (SV.d (vs 59))), AV.e (EV.s (SV.d (vs 60))),
                  AV.e (EV.s (SV.d (vs 61))), AV.e (EV.s (SV.ptr 1 0)), AV.e (EV.s (SV.sl 3 4 0 L.es.length 0)),
                  AV.e (EV.s (SV.ptr 1 0)), AV.e (EV.s (SV.d (Value.int IntKind.i64 att))),
                  AV.e (EV.s (SV.d (Value.int IntKind.i64 tmo))), AV.e (EV.s (SV.sl 4 4 0 (expP L att tmo).length 0)),
                  AV.e (EV.s (SV.ptr 1 0)), AV.e (EV.s (SV.sl 5 4 0 (expL L att tmo).es.length 0)),
                  AV.e (EV.s (SV.d (vs 70))), AV.e (EV.s (SV.d (vs 71))), AV.e (EV.s (SV.d (vs 72))),
                  AV.e (EV.s (SV.d (vs 73))), AV.e (EV.s (SV.d (vs 74))), AV.e (EV.s (SV.d (vs 75))),
                  AV.e (EV.s (SV.d (vs 76))), AV.e (EV.s (SV.d (vs 77))), AV.e (EV.s (SV.d (vs 78))),
                  AV.e (EV.s (SV.d (vs 79))), AV.e (EV.s (SV.d (vs 80))), AV.e (EV.s (SV.d (vs 81))),
                  AV.e (EV.s (SV.d (vs 82))), AV.e (EV.s (SV.d (vs 83))), AV.e (EV.s (SV.d (vs 84))),
                  AV.e (EV.s (SV.d (vs 85))), AV.e (EV.s (SV.d (vs 86))), AV.e (EV.s (SV.d (vs 87))),
                  AV.e (EV.s (SV.d (vs 88))), AV.e (EV.s (SV.d (vs 89))), AV.e (EV.s (SV.d (vs 90))),
                  AV.e (EV.s (SV.d (vs 91))), AV.e (EV.s (SV.d (vs 92))), AV.e (EV.s (SV.d (vs 93))),
                  AV.e (EV.s (SV.d (vs 94))), AV.e (EV.s (SV.d (vs 95))), AV.e (EV.s (SV.d (vs 96))),
                  AV.e (EV.s (SV.d (vs 97))), AV.e (EV.s (SV.d (vs 98))), AV.e (EV.s (SV.d (vs 99))),
                  AV.e (EV.s (SV.d (vs 100))), AV.e (EV.s (SV.d (vs 101))), AV.e (EV.s (SV.d (vs 102))),
                  AV.e (EV.s (SV.d (vs 103))), AV.e (EV.s (SV.d (vs 104))), AV.e (EV.s (SV.d (vs 105))),
                  AV.e (EV.s (SV.d (vs 106))), AV.e (EV.s (SV.d (vs 107))), AV.e (EV.s (SV.d (vs 108))),
                  AV.e (EV.s (SV.d (vs 109))), AV.e (EV.s (SV.d (vs 110))), AV.e (EV.s (SV.d (vs 111))),
                  AV.e (EV.s (SV.d (vs 112))), AV.e (EV.s (SV.d (vs 113))), AV.e (EV.s (SV.d (vs 114))),
                  AV.e (EV.s (SV.d (vs 115))), AV.e (EV.s (SV.d (vs 116))), AV.e (EV.s (SV.d (vs 117))),
                  AV.e (EV.s (SV.d (vs 118))), AV.e (EV.s (SV.d (vs 119))), AV.e (EV.s (SV.d (vs 120))),
                  AV.e (EV.s (SV.d (vs 121))), AV.e (EV.s (SV.d (vs 122))), AV.e (EV.s (SV.d (vs 123))),
                  AV.e (EV.s (SV.d (vs 124))), AV.e (EV.s (SV.d (vs 125))), AV.e (EV.s (SV.d (vs 126))),
                  AV.e (EV.s (SV.d (vs 127))), AV.e (EV.s (SV.d (vs 128))), AV.e (EV.s (SV.d (vs 129))),
                  AV.e (EV.s (SV.d (vs 130))), AV.e (EV.s (SV.d (vs 131))), AV.e (EV.s (SV.d (vs 132))),
                  AV.e (EV.s (SV.d (vs 133))), AV.e (EV.s (SV.d (vs 134))), AV.e (EV.s (SV.d (vs 135))),
                  AV.e (EV.s (SV.d (vs 136))), AV.e (EV.s (SV.d (vs 137))), AV.e (EV.s (SV.d (vs 138))),
                  AV.e (EV.s (SV.d (vs 139))), AV.e (EV.s (SV.d (vs 140))), AV.e (EV.s (SV.d (vs 141))),
                  AV.e (EV.s (SV.d (vs 142))), AV.e (EV.s (SV.d (vs 143))), AV.e (EV.s (SV.d (vs 144))),
                  AV.e (EV.s (SV.d (vs 145))), AV.e (EV.s (SV.d (vs 146)))],
              H :=
                [AB.ro 1 ns (inF f),
                  AB.cells 86
                    [SV.d (Value.int IntKind.i64 (expL L att tmo).room),
                      SV.d (Value.int IntKind.u64 (expL L att tmo).first),
                      SV.d (Value.int IntKind.u64 (expL L att tmo).next),
                      SV.d (Value.int IntKind.i64 (expL L att tmo).last), SV.mp 2],
                  AB.pm (expL L att tmo).es, AB.row 36 4 L.es.length (pkG L.es),
                  AB.row 36 4 (expP L att tmo).length (pkG (expP L att tmo)),
                  AB.row 36 4 (expL L att tmo).es.length (pkG (expL L att tmo).es)] :
              St }
            (T.go [true, true, true] (t6k room ns z f att tmo L i vs)).kont))) := by kernel_rfl


/-- Three rows: all, those that went, those that are left. -/
def G6 (ns : Nat) (f : Nat → Int) (L : LSt) (na ng nl : Nat) (fa fg fl : Nat → Pkt) : Heap := [.ro 1 ns (inF f), .cells 86 (lc L 2), .pm L.es, .row 36 4 na (pkF fa), .row 36 4 ng (pkF fg), .row 36 4 nl (pkF fl)]
def y6 (att tmo : Int) (na ng nl : Nat) (i : Int) : List AV := [.d (.int .i64 att), .d (.int .i64 tmo), .e (.s (.sl 3 4 0 na 0)), .e (.s (.sl 4 4 0 ng 0)), .e (.s (.sl 5 4 0 nl 0)), .d (.int .i64 i)]

noncomputable def t6c (ns : Nat) (f : Nat → Int) (att tmo : Int) (L : LSt) (na ng nl : Nat) (fa fg fl : Nat → Pkt) (i : Int) (vs : Nat → Value) : T (Exit × List AV × Heap) := bodyT Try.prog e6 1 o6 1 (loopAt Try.prog 6 1) [2, 3, 12, 13, 14, 15] 147 (y6 att tmo na ng nl i) (G6 ns f L na ng nl fa fg fl) vs

theorem t6c_eq (ns : Nat) (f : Nat → Int) (att tmo : Int) (L : LSt) (na ng nl : Nat) (fa fg fl : Nat → Pkt) (i : Int) (vs : Nat → Value) : t6c ns f att tmo L na ng nl fa fg fl i vs =
    T.ite (decide (i < (↑ng : Int)))
      (T.need (0 ≤ i ∧ i < (↑ng : Int))
        (T.need (0 + i.toNat < ng)
          (T.ite (decide (IntKind.i64.wrap (att - (fg (0 + i.toNat)).sent) < tmo))
            (T.ret
              (Exit.ret,
                [AV.e (EV.s (SV.d (Value.int IntKind.i64 att))), AV.e (EV.s (SV.d (Value.int IntKind.i64 tmo))),
                  AV.e (EV.s (SV.sl 3 4 0 na 0)), AV.e (EV.s (SV.sl 4 4 0 ng 0)), AV.e (EV.s (SV.sl 5 4 0 nl 0)),
                  AV.e (EV.s (SV.d (Value.int IntKind.i64 i)))],
                [AB.ro 1 ns (inF f),
                  AB.cells 86
                    [SV.d (Value.int IntKind.i64 L.room), SV.d (Value.int IntKind.u64 L.first),
                      SV.d (Value.int IntKind.u64 L.next), SV.d (Value.int IntKind.i64 L.last), SV.mp 2],
                  AB.pm L.es, AB.row 36 4 na (pkF fa), AB.row 36 4 ng (pkF fg), AB.row 36 4 nl (pkF fl)]))
            (T.ite (decide (i > 0))
              (T.need (0 ≤ i ∧ i < (↑ng : Int))
                (T.need (0 + i.toNat < ng)
                  (T.need (0 ≤ IntKind.i64.wrap (i - 1) ∧ IntKind.i64.wrap (i - 1) < (↑ng : Int))
                    (T.need (0 + (IntKind.i64.wrap (i - 1)).toNat < ng)
                      (T.ite (decide ((fg (0 + i.toNat)).seq ≤ (fg (0 + (IntKind.i64.wrap (i - 1)).toNat)).seq))
                        (T.ret
                          (Exit.ret,
                            [AV.e (EV.s (SV.d (Value.int IntKind.i64 att))), AV.e (EV.s (SV.d (Value.int IntKind.i64 tmo))),
                              AV.e (EV.s (SV.sl 3 4 0 na 0)), AV.e (EV.s (SV.sl 4 4 0 ng 0)),
                              AV.e (EV.s (SV.sl 5 4 0 nl 0)), AV.e (EV.s (SV.d (Value.int IntKind.i64 i)))],
                            [AB.ro 1 ns (inF f),
                              AB.cells 86
                                [SV.d (Value.int IntKind.i64 L.room), SV.d (Value.int IntKind.u64 L.first),
                                  SV.d (Value.int IntKind.u64 L.next), SV.d (Value.int IntKind.i64 L.last), SV.mp 2],
                              AB.pm L.es, AB.row 36 4 na (pkF fa), AB.row 36 4 ng (pkF fg), AB.row 36 4 nl (pkF fl)]))
                        (T.ret
                          (Exit.normal,
                            [AV.e (EV.s (SV.d (Value.int IntKind.i64 att))), AV.e (EV.s (SV.d (Value.int IntKind.i64 tmo))),
                              AV.e (EV.s (SV.sl 3 4 0 na 0)), AV.e (EV.s (SV.sl 4 4 0 ng 0)),
                              AV.e (EV.s (SV.sl 5 4 0 nl 0)),
                              AV.e (EV.s (SV.d (Value.int IntKind.i64 (IntKind.i64.wrap (i + 1)))))],
                            [AB.ro 1 ns (inF f),
                              AB.cells 86
                                [SV.d (Value.int IntKind.i64 L.room), SV.d (Value.int IntKind.u64 L.first),
                                  SV.d (Value.int IntKind.u64 L.next), SV.d (Value.int IntKind.i64 L.last), SV.mp 2],
                              AB.pm L.es, AB.row 36 4 na (pkF fa), AB.row 36 4 ng (pkF fg), AB.row 36 4 nl (pkF fl)])))))))
              (T.ret
                (Exit.normal,
                  [AV.e (EV.s (SV.d (Value.int IntKind.i64 att))), AV.e (EV.s (SV.d (Value.int IntKind.i64 tmo))),
                    AV.e (EV.s (SV.sl 3 4 0 na 0)), AV.e (EV.s (SV.sl 4 4 0 ng 0)), AV.e (EV.s (SV.sl 5 4 0 nl 0)),
                    AV.e (EV.s (SV.d (Value.int IntKind.i64 (IntKind.i64.wrap (i + 1)))))],
                  [AB.ro 1 ns (inF f),
                    AB.cells 86
                      [SV.d (Value.int IntKind.i64 L.room), SV.d (Value.int IntKind.u64 L.first),
                        SV.d (Value.int IntKind.u64 L.next), SV.d (Value.int IntKind.i64 L.last), SV.mp 2],
                    AB.pm L.es, AB.row 36 4 na (pkF fa), AB.row 36 4 ng (pkF fg), AB.row 36 4 nl (pkF fl)]))))))
      (T.ret
        (Exit.exit 2,
          [AV.e (EV.s (SV.d (Value.int IntKind.i64 att))), AV.e (EV.s (SV.d (Value.int IntKind.i64 tmo))),
            AV.e (EV.s (SV.sl 3 4 0 na 0)), AV.e (EV.s (SV.sl 4 4 0 ng 0)), AV.e (EV.s (SV.sl 5 4 0 nl 0)),
            AV.e (EV.s (SV.d (Value.int IntKind.i64 i)))],
          [AB.ro 1 ns (inF f),
            AB.cells 86
              [SV.d (Value.int IntKind.i64 L.room), SV.d (Value.int IntKind.u64 L.first),
                SV.d (Value.int IntKind.u64 L.next), SV.d (Value.int IntKind.i64 L.last), SV.mp 2],
            AB.pm L.es, AB.row 36 4 na (pkF fa), AB.row 36 4 ng (pkF fg), AB.row 36 4 nl (pkF fl)])) := by kernel_rfl


noncomputable def t6d (ns : Nat) (f : Nat → Int) (att tmo : Int) (L : LSt) (na ng nl : Nat) (fa fg fl : Nat → Pkt) (i : Int) (vs : Nat → Value) : T (Exit × List AV × Heap) := bodyT Try.prog e6 1 o6 1 (loopAt Try.prog 6 2) [2, 3, 12, 13, 14, 16] 147 (y6 att tmo na ng nl i) (G6 ns f L na ng nl fa fg fl) vs

theorem t6d_eq (ns : Nat) (f : Nat → Int) (att tmo : Int) (L : LSt) (na ng nl : Nat) (fa fg fl : Nat → Pkt) (i : Int) (vs : Nat → Value) : t6d ns f att tmo L na ng nl fa fg fl i vs =
    T.ite (decide (i < (↑nl : Int)))
      (T.need (0 ≤ i ∧ i < (↑nl : Int))
        (T.need (0 + i.toNat < nl)
          (T.ite (decide (IntKind.i64.wrap (att - (fl (0 + i.toNat)).sent) ≥ tmo))
            (T.ret
              (Exit.ret,
                [AV.e (EV.s (SV.d (Value.int IntKind.i64 att))), AV.e (EV.s (SV.d (Value.int IntKind.i64 tmo))),
                  AV.e (EV.s (SV.sl 3 4 0 na 0)), AV.e (EV.s (SV.sl 4 4 0 ng 0)), AV.e (EV.s (SV.sl 5 4 0 nl 0)),
                  AV.e (EV.s (SV.d (Value.int IntKind.i64 i)))],
                [AB.ro 1 ns (inF f),
                  AB.cells 86
                    [SV.d (Value.int IntKind.i64 L.room), SV.d (Value.int IntKind.u64 L.first),
                      SV.d (Value.int IntKind.u64 L.next), SV.d (Value.int IntKind.i64 L.last), SV.mp 2],
                  AB.pm L.es, AB.row 36 4 na (pkF fa), AB.row 36 4 ng (pkF fg), AB.row 36 4 nl (pkF fl)]))
            (T.ite (decide (i > 0))
              (T.need (0 ≤ i ∧ i < (↑nl : Int))
                (T.need (0 + i.toNat < nl)
                  (T.need (0 ≤ IntKind.i64.wrap (i - 1) ∧ IntKind.i64.wrap (i - 1) < (↑nl : Int))
                    (T.need (0 + (IntKind.i64.wrap (i - 1)).toNat < nl)
                      (T.ite (decide ((fl (0 + i.toNat)).seq ≤ (fl (0 + (IntKind.i64.wrap (i - 1)).toNat)).seq))
                        (T.ret
                          (Exit.ret,
                            [AV.e (EV.s (SV.d (Value.int IntKind.i64 att))), AV.e (EV.s (SV.d (Value.int IntKind.i64 tmo))),
                              AV.e (EV.s (SV.sl 3 4 0 na 0)), AV.e (EV.s (SV.sl 4 4 0 ng 0)),
                              AV.e (EV.s (SV.sl 5 4 0 nl 0)), AV.e (EV.s (SV.d (Value.int IntKind.i64 i)))],
                            [AB.ro 1 ns (inF f),
                              AB.cells 86
                                [SV.d (Value.int IntKind.i64 L.room), SV.d (Value.int IntKind.u64 L.first),
                                  SV.d (Value.int IntKind.u64 L.next), SV.d (Value.int IntKind.i64 L.last), SV.mp 2],
                              AB.pm L.es, AB.row 36 4 na (pkF fa), AB.row 36 4 ng (pkF fg), AB.row 36 4 nl (pkF fl)]))
                        (T.ret
                          (Exit.normal,
                            [AV.e (EV.s (SV.d (Value.int IntKind.i64 att))), AV.e (EV.s (SV.d (Value.int IntKind.i64 tmo))),
                              AV.e (EV.s (SV.sl 3 4 0 na 0)), AV.e (EV.s (SV.sl 4 4 0 ng 0)),
                              AV.e (EV.s (SV.sl 5 4 0 nl 0)),
                              AV.e (EV.s (SV.d (Value.int IntKind.i64 (IntKind.i64.wrap (i + 1)))))],
                            [AB.ro 1 ns (inF f),
                              AB.cells 86
                                [SV.d (Value.int IntKind.i64 L.room), SV.d (Value.int IntKind.u64 L.first),
                                  SV.d (Value.int IntKind.u64 L.next), SV.d (Value.int IntKind.i64 L.last), SV.mp 2],
                              AB.pm L.es, AB.row 36 4 na (pkF fa), AB.row 36 4 ng (pkF fg), AB.row 36 4 nl (pkF fl)])))))))
              (T.ret
                (Exit.normal,
                  [AV.e (EV.s (SV.d (Value.int IntKind.i64 att))), AV.e (EV.s (SV.d (Value.int IntKind.i64 tmo))),
                    AV.e (EV.s (SV.sl 3 4 0 na 0)), AV.e (EV.s (SV.sl 4 4 0 ng 0)), AV.e (EV.s (SV.sl 5 4 0 nl 0)),
                    AV.e (EV.s (SV.d (Value.int IntKind.i64 (IntKind.i64.wrap (i + 1)))))],
                  [AB.ro 1 ns (inF f),
                    AB.cells 86
                      [SV.d (Value.int IntKind.i64 L.room), SV.d (Value.int IntKind.u64 L.first),
                        SV.d (Value.int IntKind.u64 L.next), SV.d (Value.int IntKind.i64 L.last), SV.mp 2],
                    AB.pm L.es, AB.row 36 4 na (pkF fa), AB.row 36 4 ng (pkF fg), AB.row 36 4 nl (pkF fl)]))))))
      (T.ret
        (Exit.exit 4,
          [AV.e (EV.s (SV.d (Value.int IntKind.i64 att))), AV.e (EV.s (SV.d (Value.int IntKind.i64 tmo))),
            AV.e (EV.s (SV.sl 3 4 0 na 0)), AV.e (EV.s (SV.sl 4 4 0 ng 0)), AV.e (EV.s (SV.sl 5 4 0 nl 0)),
            AV.e (EV.s (SV.d (Value.int IntKind.i64 i)))],
          [AB.ro 1 ns (inF f),
            AB.cells 86
              [SV.d (Value.int IntKind.i64 L.room), SV.d (Value.int IntKind.u64 L.first),
                SV.d (Value.int IntKind.u64 L.next), SV.d (Value.int IntKind.i64 L.last), SV.mp 2],
            AB.pm L.es, AB.row 36 4 na (pkF fa), AB.row 36 4 ng (pkF fg), AB.row 36 4 nl (pkF fl)])) := by kernel_rfl


noncomputable def t6l (room : Int) (ns z : Nat) (f : Nat → Int) (att tmo : Int) (L0 : LSt) (i0 : Int) (vs0 : Nat → Value) (L : LSt) (na ng nl : Nat) (fa fg fl : Nat → Pkt) (i : Int) (vs : Nat → Value) : T (AV × Heap) := ((t6k room ns z f att tmo L0 i0 vs0).go [true, true, true]).kont (.exit 2) ⟨fat [2, 3, 12, 13, 14, 15] vs (y6 att tmo na ng nl i) 147 0, G6 ns f L na ng nl fa fg fl⟩

theorem t6l_eq (room : Int) (ns z : Nat) (f : Nat → Int) (att tmo : Int) (L0 : LSt) (i0 : Int) (vs0 : Nat → Value) (L : LSt) (na ng nl : Nat) (fa fg fl : Nat → Pkt) (i : Int) (vs : Nat → Value) : t6l room ns z f att tmo L0 i0 vs0 L na ng nl fa fg fl i vs =
    T.code 1 (loopAt Try.prog 6 2).loop
      {
        fr :=
          [AV.e (EV.s (SV.d (vs 0))), AV.e (EV.s (SV.d (vs 1))), AV.e (EV.s (SV.d (Value.int IntKind.i64 att))),
            AV.e (EV.s (SV.d (Value.int IntKind.i64 tmo))), AV.e (EV.s (SV.d (vs 4))), AV.e (EV.s (SV.d (vs 5))),
            AV.e (EV.s (SV.d (vs 6))), AV.e (EV.s (SV.d (vs 7))), AV.e (EV.s (SV.d (vs 8))), AV.e (EV.s (SV.d (vs 9))),
            AV.e (EV.s (SV.d (vs 10))), AV.e (EV.s (SV.d (vs 11))), AV.e (EV.s (SV.sl 3 4 0 na 0)),
            AV.e (EV.s (SV.sl 4 4 0 ng 0)), AV.e (EV.s (SV.sl 5 4 0 nl 0)), AV.e (EV.s (SV.d (Value.int IntKind.i64 i))),
            AV.e (EV.s (SV.c (Value.int IntKind.i64 0))), AV.e (EV.s (SV.d (vs 17))), AV.e (EV.s (SV.d (vs 18))),
            AV.e (EV.s (SV.d (vs 19))), AV.e (EV.s (SV.d (vs 20))), AV.e (EV.s (SV.d (vs 21))), AV.e (EV.s (SV.d (vs 22))),
            AV.e (EV.s (SV.d (vs 23))), AV.e (EV.s (SV.d (vs 24))), AV.e (EV.s (SV.d (vs 25))), AV.e (EV.s (SV.d (vs 26))),
            AV.e (EV.s (SV.d (vs 27))), AV.e (EV.s (SV.d (vs 28))), AV.e (EV.s (SV.d (vs 29))), AV.e (EV.s (SV.d (vs 30))),
            AV.e (EV.s (SV.d (vs 31))), AV.e (EV.s (SV.d (vs 32))), AV.e (EV.s (SV.d (vs 33))), AV.e (EV.s (SV.d (vs 34))),
            AV.e (EV.s (SV.d (vs 35))), AV.e (EV.s (SV.d (vs 36))), AV.e (EV.s (SV.d (vs 37))), AV.e (EV.s (SV.d (vs 38))),
            AV.e (EV.s (SV.d (vs 39))), AV.e (EV.s (SV.d (vs 40))), AV.e (EV.s (SV.d (vs 41))), AV.e (EV.s (SV.d (vs 42))),
            AV.e (EV.s (SV.d (vs 43))), AV.e (EV.s (SV.d (vs 44))), AV.e (EV.s (SV.d (vs 45))), AV.e (EV.s (SV.d (vs 46))),
            AV.e (EV.s (SV.d (vs 47))), AV.e (EV.s (SV.d (vs 48))), AV.e (EV.s (SV.d (vs 49))), AV.e (EV.s (SV.d (vs 50))),
            AV.e (EV.s (SV.d (vs 51))), AV.e (EV.s (SV.d (vs 52))), AV.e (EV.s (SV.d (vs 53))), AV.e (EV.s (SV.d (vs 54))),
            AV.e (EV.s (SV.d (vs 55))), AV.e (EV.s (SV.d (vs 56))), AV.e (EV.s (SV.d (vs 57))), AV.e (EV.s (SV.d (vs 58))),
            AV.e (EV.s (SV.d (vs 59))), AV.e (EV.s (SV.d (vs 60))), AV.e (EV.s (SV.d (vs 61))), AV.e (EV.s (SV.d (vs 62))),
            AV.e (EV.s (SV.d (vs 63))), AV.e (EV.s (SV.d (vs 64))), AV.e (EV.s (SV.d (vs 65))), AV.e (EV.s (SV.d (vs 66))),
            AV.e (EV.s (SV.d (vs 67))), AV.e (EV.s (SV.d (vs 68))), AV.e (EV.s (SV.d (vs 69))), AV.e (EV.s (SV.d (vs 70))),
            AV.e (EV.s (SV.d (vs 71))), AV.e (EV.s (SV.d (vs 72))), AV.e (EV.s (SV.d (vs 73))), AV.e (EV.s (SV.d (vs 74))),
            AV.e (EV.s (SV.d (vs 75))), AV.e (EV.s (SV.d (vs 76))), AV.e (EV.s (SV.d (vs 77))), AV.e (EV.s (SV.d (vs 78))),
            AV.e (EV.s (SV.d (vs 79))), AV.e (EV.s (SV.d (vs 80))), AV.e (EV.s (SV.d (vs 81))), AV.e (EV.s (SV.d (vs 82))),
            AV.e (EV.s (SV.d (vs 83))), AV.e (EV.s (SV.d (vs 84))), AV.e (EV.s (SV.d (vs 85))), AV.e (EV.s (SV.d (vs 86))),
            AV.e (EV.s (SV.d (vs 87))), AV.e (EV.s (SV.d (vs 88))), AV.e (EV.s (SV.d (vs 89))), AV.e (EV.s (SV.d (vs 90))),
            AV.e (EV.s (SV.d (vs 91))), AV.e (EV.s (SV.d (vs 92))), AV.e (EV.s (SV.d (vs 93))), AV.e (EV.s (SV.d (vs 94))),
            AV.e (EV.s (SV.d (vs 95))), AV.e (EV.s (SV.d (vs 96))), AV.e (EV.s (SV.d (vs 97))), AV.e (EV.s (SV.d (vs 98))),
            AV.e (EV.s (SV.d (vs 99))), AV.e (EV.s (SV.d (vs 100))), AV.e (EV.s (SV.d (vs 101))),
            AV.e (EV.s (SV.d (vs 102))), AV.e (EV.s (SV.d (vs 103))), AV.e (EV.s (SV.d (vs 104))),
            AV.e (EV.s (SV.d (vs 105))), AV.e (EV.s (SV.d (vs 106))), AV.e (EV.s (SV.d (vs 107))),
            AV.e (EV.s (SV.d (vs 108))), AV.e (EV.s (SV.d (vs 109))), AV.e (EV.s (SV.d (vs 110))),
            AV.e (EV.s (SV.d (vs 111))), AV.e (EV.s (SV.d (vs 112))), AV.e (EV.s (SV.d (vs 113))),
            AV.e (EV.s (SV.d (vs 114))), AV.e (EV.s (SV.d (vs 115))), AV.e (EV.s (SV.d (vs 116))),
            AV.e (EV.s (SV.d (vs 117))), AV.e (EV.s (SV.d (vs 118))), AV.e (EV.s (SV.d (vs 119))),
            AV.e (EV.s (SV.d (vs 120))), AV.e (EV.s (SV.d (vs 121))), AV.e (EV.s (SV.d (vs 122))),
            AV.e (EV.s (SV.d (vs 123))), AV.e (EV.s (SV.d (vs 124))), AV.e (EV.s (SV.d (vs 125))),
            AV.e (EV.s (SV.d (vs 126))), AV.e (EV.s (SV.d (vs 127))), AV.e (EV.s (SV.d (vs 128))),
            AV.e (EV.s (SV.d (vs 129))), AV.e (EV.s (SV.d (vs 130))), AV.e (EV.s (SV.d (vs 131))),
            AV.e (EV.s (SV.d (vs 132))), AV.e (EV.s (SV.d (vs 133))), AV.e (EV.s (SV.d (vs 134))),
            AV.e (EV.s (SV.d (vs 135))), AV.e (EV.s (SV.d (vs 136))), AV.e (EV.s (SV.d (vs 137))),
            AV.e (EV.s (SV.d (vs 138))), AV.e (EV.s (SV.d (vs 139))), AV.e (EV.s (SV.d (vs 140))),
            AV.e (EV.s (SV.d (vs 141))), AV.e (EV.s (SV.d (vs 142))), AV.e (EV.s (SV.d (vs 143))),
            AV.e (EV.s (SV.d (vs 144))), AV.e (EV.s (SV.d (vs 145))), AV.e (EV.s (SV.d (vs 146)))],
        H :=
          [AB.ro 1 ns (inF f),
            AB.cells 86
              [SV.d (Value.int IntKind.i64 L.room), SV.d (Value.int IntKind.u64 L.first),
                SV.d (Value.int IntKind.u64 L.next), SV.d (Value.int IntKind.i64 L.last), SV.mp 2],
            AB.pm L.es, AB.row 36 4 na (pkF fa), AB.row 36 4 ng (pkF fg), AB.row 36 4 nl (pkF fl)] :
        St }
      (T.go [] (t6l room ns z f att tmo L0 i0 vs0 L na ng nl fa fg fl i vs)).kont := by kernel_rfl


noncomputable def t6m (room : Int) (ns z : Nat) (f : Nat → Int) (att tmo : Int) (L0 : LSt) (i0 : Int) (vs0 : Nat → Value) (L1 : LSt) (na0 ng0 nl0 : Nat) (fa0 fg0 fl0 : Nat → Pkt) (i1 : Int) (vs1 : Nat → Value) (L : LSt) (na ng nl : Nat) (fa fg fl : Nat → Pkt) (i : Int) (vs : Nat → Value) : T (AV × Heap) := ((t6l room ns z f att tmo L0 i0 vs0 L1 na0 ng0 nl0 fa0 fg0 fl0 i1 vs1).go []).kont (.exit 4) ⟨fat [2, 3, 12, 13, 14, 16] vs (y6 att tmo na ng nl i) 147 0, G6 ns f L na ng nl fa fg fl⟩

theorem t6m_eq (room : Int) (ns z : Nat) (f : Nat → Int) (att tmo : Int) (L0 : LSt) (i0 : Int) (vs0 : Nat → Value) (L1 : LSt) (na0 ng0 nl0 : Nat) (fa0 fg0 fl0 : Nat → Pkt) (i1 : Int) (vs1 : Nat → Value) (L : LSt) (na ng nl : Nat) (fa fg fl : Nat → Pkt) (i : Int) (vs : Nat → Value) : t6m room ns z f att tmo L0 i0 vs0 L1 na0 ng0 nl0 fa0 fg0 fl0 i1 vs1 L na ng nl fa fg fl i vs =
    T.ite (IntKind.i64.wrap ((↑ng : Int) + (↑nl : Int)) == (↑na : Int))
      (T.ret (AV.e (EV.s (SV.c (Value.bool true))), [AB.ro 1 ns (inF f)]))
      (T.ret (AV.e (EV.s (SV.c (Value.bool false))), [AB.ro 1 ns (inF f)])) := by kernel_rfl


theorem kl60 : codeB o6 (loopAt Try.prog 6 0) = true := by kernel_rfl
theorem kl61 : codeB o6 (loopAt Try.prog 6 1) = true := by kernel_rfl
theorem kl62 : codeB o6 (loopAt Try.prog 6 2) = true := by kernel_rfl

end Go.Proofs.Ythckkoledhjmeaa.Ev

/-
  The statement LedgerTimes, told of the abstract evaluator's data.
-/
namespace Go.Proofs.Ythckkoledhjmeaa.Ev
open Go

theorem e6ok : EntsOk Try.prog e6 := ⟨k6, s10ok, s12ok, s17ok, s19ok, s22ok, trivial⟩

/-- Two places of a row that is sorted. -/
theorem sorted_get {es : List Pkt} (hs : es.Pairwise fun a b => a.seq < b.seq) {i : Nat} (h0 : 0 < i) (h : i < es.length) : (es.getD (i - 1) Pkt.zero).seq < (es.getD i Pkt.zero).seq := by
  have := List.pairwise_iff_getElem.1 hs (i - 1) i (by omega) h (by omega)
  rw [List.getD_eq_getElem?_getD, List.getD_eq_getElem?_getD, List.getElem?_eq_getElem h, List.getElem?_eq_getElem (show i - 1 < es.length by omega)]
  exact this

theorem getD_mem {es : List Pkt} {i : Nat} (h : i < es.length) : es.getD i Pkt.zero ∈ es := by
  rw [List.getD_eq_getElem?_getD, List.getElem?_eq_getElem h]; exact List.getElem_mem h

theorem wrap_pred {i : Nat} (h0 : 0 < i) (h : i < 9223372036854775808) : IntKind.i64.wrap ((i : Int) - 1) = ((i - 1 : Nat) : Int) := by rw [IntKind.wrap_i64]; omega

section
variable (ns : Nat) (f : Nat → Int) (att tmo : Int) (L : LSt) (na nl : Nat) (fa fl : Nat → Pkt) (Q0 : AV × Heap → Prop) (k : Exit → St → T (AV × Heap)) (σ : St)

set_option maxRecDepth 100000 in
theorem times_2 (es : List Pkt) (hat : 0 ≤ att ∧ att ≤ 1099511627776) (hs : es.Pairwise fun a b => a.seq < b.seq) (hlen : es.length ≤ most) (ho : ∀ p ∈ es, 0 ≤ p.sent ∧ p.sent ≤ 1099511627776 ∧ att - p.sent ≥ tmo)
    (hk : ∀ (i : Nat) (vs : Nat → Value), (k (.exit 2) ⟨fat [2, 3, 12, 13, 14, 15] vs (y6 att tmo na es.length nl i) 147 0, G6 ns f L na es.length nl fa (fun j => es.getD j Pkt.zero) fl⟩).sat Try.prog Q0)
    (h0 : Re 1 (slim [2, 3, 12, 13, 14, 15] σ.fr) σ.H fun xs H => xs = y6 att tmo na es.length nl 0 ∧ H = G6 ns f L na es.length nl fa (fun j => es.getD j Pkt.zero) fl) (hN : σ.fr.length = 147) :
    CodeA Try.prog 1 (.loop (loopAt Try.prog 6 1)) σ fun e σ' => (k e σ').sat Try.prog Q0 := by
  have hn : ∀ (xs : List AV) (H : Heap), (∃ i : Nat, xs = y6 att tmo na es.length nl i ∧ H = G6 ns f L na es.length nl fa (fun j => es.getD j Pkt.zero) fl) → 1 ≤ H.length := by
    rintro xs H ⟨i, _, rfl⟩; show 1 ≤ 6; omega
  unfold most at hlen
  refine code_loop fine e6ok 1 kl61 (fun xs H => ∃ i : Nat, xs = y6 att tmo na es.length nl i ∧ H = G6 ns f L na es.length nl fa (fun j => es.getD j Pkt.zero) fl) (fun xs _ => es.length - ctr 5 xs) hn ?_ hN (h0.mono fun xs H h => ⟨0, h⟩)
  intro xs H vs hI
  cases hI with | intro i hI =>
  rw [hI.1, hI.2]
  clear hI
  have e := t6c_eq ns f att tmo L na es.length nl fa (fun j => es.getD j Pkt.zero) fl i vs
  unfold t6c at e
  rw [e]
  refine ⟨fun hlt => ?_, fun _ => fun vs => hk i vs⟩
  have hlt : i < es.length := by simpa using hlt
  have hm := ho _ (getD_mem hlt)
  have hwi : IntKind.i64.wrap (att - (es.getD i Pkt.zero).sent) = att - (es.getD i Pkt.zero).sent := by rw [IntKind.wrap_i64]; omega
  have fin : Re 1 (y6 att tmo na es.length nl (IntKind.i64.wrap ((i : Int) + 1))) (G6 ns f L na es.length nl fa (fun j => es.getD j Pkt.zero) fl) fun xs2 H2 => (∃ i : Nat, xs2 = y6 att tmo na es.length nl i ∧ H2 = G6 ns f L na es.length nl fa (fun j => es.getD j Pkt.zero) fl) ∧ es.length - ctr 5 xs2 < es.length - ctr 5 (y6 att tmo na es.length nl i) := by
    rw [wrap_succ (by omega)]
    refine .refl ⟨⟨i + 1, rfl, rfl⟩, ?_⟩
    simp only [ctr, List.getD_cons_succ, List.getD_cons_zero, asInt, Option.getD_some, y6, Int.toNat_natCast]
    omega
  simp only [T.sat, Int.toNat_natCast, Nat.zero_add, hwi, decide_eq_true_eq, decide_eq_false_iff_not]
  refine ⟨by omega, hlt, fun h => by omega, fun _ => ⟨fun hpos => ?_, fun _ => fin⟩⟩
  have hpos : 0 < i := by omega
  have hlt2 := sorted_get hs hpos hlt
  rw [wrap_pred hpos (by omega)]
  simp only [Int.toNat_natCast]
  exact ⟨by omega, hlt, by omega, by omega, fun h => by omega, fun _ => fin⟩

set_option maxRecDepth 100000 in
theorem times_3 (ng : Nat) (fg : Nat → Pkt) (es : List Pkt) (hat : 0 ≤ att ∧ att ≤ 1099511627776) (hs : es.Pairwise fun a b => a.seq < b.seq) (hlen : es.length ≤ most) (ho : ∀ p ∈ es, 0 ≤ p.sent ∧ p.sent ≤ 1099511627776 ∧ ¬ att - p.sent ≥ tmo)
    (hk : ∀ (i : Nat) (vs : Nat → Value), (k (.exit 4) ⟨fat [2, 3, 12, 13, 14, 16] vs (y6 att tmo na ng es.length i) 147 0, G6 ns f L na ng es.length fa fg (fun j => es.getD j Pkt.zero)⟩).sat Try.prog Q0)
    (h0 : Re 1 (slim [2, 3, 12, 13, 14, 16] σ.fr) σ.H fun xs H => xs = y6 att tmo na ng es.length 0 ∧ H = G6 ns f L na ng es.length fa fg (fun j => es.getD j Pkt.zero)) (hN : σ.fr.length = 147) :
    CodeA Try.prog 1 (.loop (loopAt Try.prog 6 2)) σ fun e σ' => (k e σ').sat Try.prog Q0 := by
  have hn : ∀ (xs : List AV) (H : Heap), (∃ i : Nat, xs = y6 att tmo na ng es.length i ∧ H = G6 ns f L na ng es.length fa fg (fun j => es.getD j Pkt.zero)) → 1 ≤ H.length := by
    rintro xs H ⟨i, _, rfl⟩; show 1 ≤ 6; omega
  unfold most at hlen
  refine code_loop fine e6ok 1 kl62 (fun xs H => ∃ i : Nat, xs = y6 att tmo na ng es.length i ∧ H = G6 ns f L na ng es.length fa fg (fun j => es.getD j Pkt.zero)) (fun xs _ => es.length - ctr 5 xs) hn ?_ hN (h0.mono fun xs H h => ⟨0, h⟩)
  intro xs H vs hI
  cases hI with | intro i hI =>
  rw [hI.1, hI.2]
  clear hI
  have e := t6d_eq ns f att tmo L na ng es.length fa fg (fun j => es.getD j Pkt.zero) i vs
  unfold t6d at e
  rw [e]
  refine ⟨fun hlt => ?_, fun _ => fun vs => hk i vs⟩
  have hlt : i < es.length := by simpa using hlt
  have hm := ho _ (getD_mem hlt)
  have hwi : IntKind.i64.wrap (att - (es.getD i Pkt.zero).sent) = att - (es.getD i Pkt.zero).sent := by rw [IntKind.wrap_i64]; omega
  have fin : Re 1 (y6 att tmo na ng es.length (IntKind.i64.wrap ((i : Int) + 1))) (G6 ns f L na ng es.length fa fg (fun j => es.getD j Pkt.zero)) fun xs2 H2 => (∃ i : Nat, xs2 = y6 att tmo na ng es.length i ∧ H2 = G6 ns f L na ng es.length fa fg (fun j => es.getD j Pkt.zero)) ∧ es.length - ctr 5 xs2 < es.length - ctr 5 (y6 att tmo na ng es.length i) := by
    rw [wrap_succ (by omega)]
    refine .refl ⟨⟨i + 1, rfl, rfl⟩, ?_⟩
    simp only [ctr, List.getD_cons_succ, List.getD_cons_zero, asInt, Option.getD_some, y6, Int.toNat_natCast]
    omega
  simp only [T.sat, Int.toNat_natCast, Nat.zero_add, hwi, decide_eq_true_eq, decide_eq_false_iff_not]
  refine ⟨by omega, hlt, fun h => by omega, fun _ => ⟨fun hpos => ?_, fun _ => fin⟩⟩
  have hpos : 0 < i := by omega
  have hlt2 := sorted_get hs hpos hlt
  rw [wrap_pred hpos (by omega)]
  simp only [Int.toNat_natCast]
  exact ⟨by omega, hlt, by omega, by omega, fun h => by omega, fun _ => fin⟩

end

theorem exp_left (L : LSt) (att tmo : Int) : (expP L att tmo).length + (expL L att tmo).es.length = L.es.length := by
  unfold expP expL
  simp only
  induction L.es with
  | nil => rfl
  | cons p es ih =>
    simp only [List.filter_cons]
    cases overX att tmo p <;> simp <;> omega

set_option maxRecDepth 100000 in
theorem times_k3 (room : Int) (ns z : Nat) (f : Nat → Int) (att tmo : Int) (L : LSt) (i : Nat) (vs : Nat → Value) (hat : 0 ≤ att ∧ att ≤ 1099511627776) (hL : L.Ok)
    (i1 : Nat) (vs1 : Nat → Value) (t : T (AV × Heap)) (ht : t = t6l room ns z f att tmo L i vs (expL L att tmo) L.es.length (expP L att tmo).length (expL L att tmo).es.length (fun j => L.es.getD j Pkt.zero) (fun j => (expP L att tmo).getD j Pkt.zero) (fun j => (expL L att tmo).es.getD j Pkt.zero) i1 vs1) :
    t.sat Try.prog fun x => x.1 = .c (.bool true) := by
  have hlast := hL.last
  have hm := most_ok L hL
  have hX := okL_exp hL att tmo
  have heq := exp_left L att tmo
  unfold most at hm
  rw [ht, t6l_eq]
  clear ht
  generalize hk3 : (T.go [] (t6l room ns z f att tmo L i vs (expL L att tmo) L.es.length (expP L att tmo).length (expL L att tmo).es.length (fun j => L.es.getD j Pkt.zero) (fun j => (expP L att tmo).getD j Pkt.zero) (fun j => (expL L att tmo).es.getD j Pkt.zero) i1 vs1)).kont = k3
  refine times_3 ns f att tmo (expL L att tmo) L.es.length (fun j => L.es.getD j Pkt.zero) _ k3 _ (expP L att tmo).length (fun j => (expP L att tmo).getD j Pkt.zero) (expL L att tmo).es hat hX.sorted (by unfold most; omega) ?_ ?_ ?_ rfl
  · intro p hp
    have h1 := hX.sent p hp
    have h2 := (List.mem_filter.1 hp).2
    simp only [overX, Bool.not_eq_true', decide_eq_false_iff_not] at h2
    have h3 : (expL L att tmo).last = L.last := rfl
    omega
  · intro i2 vs2
    have e := t6m_eq room ns z f att tmo L i vs (expL L att tmo) L.es.length (expP L att tmo).length (expL L att tmo).es.length (fun j => L.es.getD j Pkt.zero) (fun j => (expP L att tmo).getD j Pkt.zero) (fun j => (expL L att tmo).es.getD j Pkt.zero) i1 vs1
      (expL L att tmo) L.es.length (expP L att tmo).length (expL L att tmo).es.length (fun j => L.es.getD j Pkt.zero) (fun j => (expP L att tmo).getD j Pkt.zero) (fun j => (expL L att tmo).es.getD j Pkt.zero) i2 vs2
    unfold t6m at e
    rw [hk3] at e
    rw [e]
    refine ⟨fun _ => rfl, fun h => ?_⟩
    rw [IntKind.wrap_i64, beq_eq_false_iff_ne] at h
    omega
  · exact .toDm [false, false, false, false, false, true] [] (.refl ⟨rfl, rfl⟩)

set_option maxRecDepth 100000 in
theorem times_k2 (room : Int) (ns z : Nat) (f : Nat → Int) (att tmo : Int) (L : LSt) (i : Nat) (vs : Nat → Value) (hat : 0 ≤ att ∧ att ≤ 1099511627776) (htm : 0 ≤ tmo ∧ tmo ≤ 1099511627776) (hL : L.Ok)
    (t : T (AV × Heap)) (ht : t = t6k room ns z f att tmo L i vs) : t.sat Try.prog fun x => x.1 = .c (.bool true) := by
  have hlast := hL.last
  have hm := most_ok L hL
  have heq := exp_left L att tmo
  unfold most at hm
  rw [ht, t6k_eq]
  clear ht
  refine ⟨hL, ⟨hL, by unfold I64; omega, by unfold I64; omega⟩, okL_exp hL att tmo, ?_⟩
  generalize hk2 : (T.go [true, true, true] (t6k room ns z f att tmo L i vs)).kont = k2
  refine times_2 ns f att tmo (expL L att tmo) L.es.length (expL L att tmo).es.length (fun j => L.es.getD j Pkt.zero) (fun j => (expL L att tmo).es.getD j Pkt.zero) _ k2 _ (expP L att tmo) hat (hL.sorted.sublist List.filter_sublist) (by unfold most; omega) ?_ ?_ ?_ rfl
  · intro p hp
    have h0 := List.mem_filter.1 hp
    have h1 := hL.sent p h0.1
    have h2 := h0.2
    simp only [overX, decide_eq_true_eq] at h2
    omega
  · intro i1 vs1
    refine times_k3 room ns z f att tmo L i vs hat hL i1 vs1 _ ?_
    rw [← hk2]
    rfl
  · exact .toDm [false, false, false, false, false, true] [] (.refl ⟨rfl, rfl⟩)

set_option maxRecDepth 100000 in
theorem times6 (room : Int) (ns z : Nat) (f : Nat → Int) (att tmo : Int) :
    CallsA Try.prog 6 [.d (.int .i64 room), .e (.s (.sl 0 1 0 ns z)), .d (.int .i64 att), .d (.int .i64 tmo)] [.ro 1 ns (inF f)] fun r _ => r = .c (.bool true) := by
  refine calls_of fine e6ok 2 6 _ _ ?_
  show (t6 room ns z f att tmo).sat _ _
  rw [t6_eq]
  generalize hk1 : (T.go [false, false, false, false, false, false] (t6 room ns z f att tmo)).kont = k1
  simp only [T.sat, decide_eq_true_eq, decide_eq_false_iff_not, implies_true, true_and]
  intro hr hns h1 h2 h3 h4
  have hroom := newB_false hr
  have hn : ∀ (xs : List AV) (H : Heap), (∃ (i : Nat) (L : LSt), L.Ok ∧ xs = x6 ns z att tmo i ∧ H = H6 ns f L) → 1 ≤ H.length := by
    rintro xs H ⟨i, L, _, _, rfl⟩; show 1 ≤ 3; omega
  refine code_loop fine e6ok 1 (live := [1, 2, 3, 9, 11]) (N := 147) kl60 (fun xs H => ∃ (i : Nat) (L : LSt), L.Ok ∧ xs = x6 ns z att tmo i ∧ H = H6 ns f L) (fun xs _ => ns - ctr 4 xs) hn ?_ rfl ?_
  · intro xs H vs hI
    cases hI with | intro i hI =>
    cases hI with | intro L hI =>
    have hL := hI.1
    rw [hI.2.1, hI.2.2]
    clear hI
    have e := t6b_eq ns z f att tmo L i vs
    unfold t6b at e
    rw [e]
    refine ⟨fun hlt => ?_, fun _ => fun vs => ?_⟩
    · have hlt : i < ns := by simpa using hlt
      refine ⟨by omega, by simpa using hlt, hL, ?_⟩
      simp only [Int.toNat_natCast, Nat.zero_add]
      refine .refl ⟨⟨i + 1, sendL L 0 1 (f i), okL_send hL _ _ _, ?_, rfl⟩, ?_⟩
      · rw [wrap_succ (by omega)]; rfl
      · simp only [ctr, List.getD_cons_succ, List.getD_cons_zero, asInt, Option.getD_some, x6]
        rw [wrap_succ (by omega)]
        omega
    · refine times_k2 room ns z f att tmo L i vs (by omega) (by omega) hL _ ?_
      rw [← hk1]
      rfl
  · exact .toDm [false, false, false, false, true] [] (.refl ⟨0, newL room 0, okL_new hroom.1 hroom.2 (by decide) (by decide), rfl, rfl⟩)

end Go.Proofs.Ythckkoledhjmeaa.Ev
