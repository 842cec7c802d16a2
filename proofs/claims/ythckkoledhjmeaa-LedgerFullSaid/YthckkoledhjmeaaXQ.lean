/-
  The abstract evaluator's trees: the statement LedgerTimes.
-/
import Derived.Test.YthckkoledhjmeaaXN
namespace Go.Proofs.Ythckkoledhjmeaa.Ev
open Go

def inF (f : Nat → Int) : Nat → List Value := fun j => [.int .i64 (f j)]

def e6 : List (Nat × Ent) := [(6, .body o6 0), (10, .summ s10), (12, .summ s12), (17, .summ s17), (19, .summ s19), (22, .summ s22)]

noncomputable def t6 (room : Int) (ns z : Nat) (f : Nat → Int) (att tmo : Int) : T (AV × Heap) := callT Try.prog (entL e6) 2 6 [.d (.int .i64 room), .e (.s (.sl 0 1 0 ns z)), .d (.int .i64 att), .d (.int .i64 tmo)] [.ro 1 ns (inF f)] fun r H' => .ret (r, H')

theorem t6_eq (room : Int) (ns z : Nat) (f : Nat → Int) (att tmo : Int) : t6 room ns z f att tmo =
    T.ite (newB room) (T.ret (AV.e (EV.s (SV.c (Value.bool true))), [AB.ro 1 ns (inF f)]))
      (T.ite (decide ((↑ns : Int) > 100)) (T.ret (AV.e (EV.s (SV.c (Value.bool true))), [AB.ro 1 ns (inF f)]))
        (T.ite (decide (att < 0)) (T.ret (AV.e (EV.s (SV.c (Value.bool true))), [AB.ro 1 ns (inF f)]))
          (T.ite (decide (att > 1099511627776)) (T.ret (AV.e (EV.s (SV.c (Value.bool true))), [AB.ro 1 ns (inF f)]))
            (T.ite (decide (tmo < 0)) (T.ret (AV.e (EV.s (SV.c (Value.bool true))), [AB.ro 1 ns (inF f)]))
              (T.ite (decide (tmo > 1099511627776)) (T.ret (AV.e (EV.s (SV.c (Value.bool true))), [AB.ro 1 ns (inF f)]))
                (T.code 1 (loopAt Try.prog 6 0).loop
                  {
                    fr :=
                      [AV.e (EV.s (SV.d (Value.int IntKind.i64 room))), AV.e (EV.s (SV.sl 0 1 0 ns z)),
                        AV.e (EV.s (SV.d (Value.int IntKind.i64 att))), AV.e (EV.s (SV.d (Value.int IntKind.i64 tmo))),
                        AV.tup [], AV.tup [], AV.tup [], AV.tup [], AV.e (EV.s (SV.c (Value.bool false))),
                        AV.e (EV.s (SV.ptr 1 0)), AV.e (EV.s (SV.c (Value.int IntKind.i64 0))),
                        AV.e (EV.s (SV.c (Value.int IntKind.i64 0))), AV.tup [], AV.tup [], AV.tup [], AV.tup [], AV.tup [],
                        AV.tup [EV.s (SV.ptr 1 0), EV.s (SV.c (Value.int IntKind.i64 0))],
                        AV.e (EV.s (SV.d (Value.int IntKind.i64 room))),
                        AV.tup [EV.s (SV.ptr 1 0), EV.s (SV.c (Value.int IntKind.i64 0))], AV.e (EV.s (SV.ptr 1 0)),
                        AV.e (EV.s (SV.c (Value.int IntKind.i64 0))), AV.e (EV.s (SV.c (Value.int IntKind.i64 0))),
                        AV.e (EV.s (SV.c (Value.bool false))), AV.e (EV.s (SV.c (Value.bool false))),
                        AV.e (EV.s (SV.ptr 1 0)), AV.e (EV.s (SV.c (Value.bool false))),
                        AV.e (EV.s (SV.c (Value.bool false))), AV.e (EV.s (SV.c (Value.bool false))),
                        AV.e (EV.s (SV.sl 0 1 0 ns z)), AV.e (EV.s (SV.d (Value.int IntKind.i64 (↑ns : Int)))),
                        AV.e (EV.s (SV.c (Value.bool false))), AV.e (EV.s (SV.c (Value.bool false))),
                        AV.e (EV.s (SV.c (Value.bool false))), AV.e (EV.s (SV.d (Value.int IntKind.i64 att))),
                        AV.e (EV.s (SV.c (Value.bool false))), AV.e (EV.s (SV.c (Value.bool false))),
                        AV.e (EV.s (SV.c (Value.bool false))), AV.e (EV.s (SV.d (Value.int IntKind.i64 att))),
                        AV.e (EV.s (SV.c (Value.bool false))), AV.e (EV.s (SV.c (Value.bool false))),
                        AV.e (EV.s (SV.c (Value.bool false))), AV.e (EV.s (SV.d (Value.int IntKind.i64 tmo))),
                        AV.e (EV.s (SV.c (Value.bool false))), AV.e (EV.s (SV.c (Value.bool false))),
                        AV.e (EV.s (SV.c (Value.bool false))), AV.e (EV.s (SV.d (Value.int IntKind.i64 tmo))),
                        AV.e (EV.s (SV.c (Value.bool false))), AV.e (EV.s (SV.c (Value.bool false))), AV.tup [], AV.tup [],
                        AV.tup [], AV.tup [], AV.tup [], AV.tup [], AV.tup [], AV.tup [], AV.tup [], AV.tup [], AV.tup [],
                        AV.tup [], AV.tup [], AV.tup [], AV.tup [], AV.tup [], AV.tup [], AV.tup [], AV.tup [], AV.tup [],
                        AV.tup [], AV.tup [], AV.tup [], AV.tup [], AV.tup [], AV.tup [], AV.tup [], AV.tup [], AV.tup [],
                        AV.tup [], AV.tup [], AV.tup [], AV.tup [], AV.tup [], AV.tup [], AV.tup [], AV.tup [], AV.tup [],
                        AV.tup [], AV.tup [], AV.tup [], AV.tup [], AV.tup [], AV.tup [], AV.tup [], AV.tup [], AV.tup [],
                        AV.tup [], AV.tup [], AV.tup [], AV.tup [], AV.tup [], AV.tup [], AV.tup [], AV.tup [], AV.tup [],
                        AV.tup [], AV.tup [], AV.tup [], AV.tup [], AV.tup [], AV.tup [], AV.tup [], AV.tup [], AV.tup [],
                        AV.tup [], AV.tup [], AV.tup [], AV.tup [], AV.tup [], AV.tup [], AV.tup [], AV.tup [], AV.tup [],
                        AV.tup [], AV.tup [], AV.tup [], AV.tup [], AV.tup [], AV.tup [], AV.tup [], AV.tup [], AV.tup [],
                        AV.tup [], AV.tup [], AV.tup [], AV.tup [], AV.tup [], AV.tup [], AV.tup [], AV.tup [], AV.tup [],
                        AV.tup [], AV.tup [], AV.tup [], AV.tup [], AV.tup [], AV.tup []],
                    H :=
                      [AB.ro 1 ns (inF f),
                        AB.cells 86
                          [SV.d (Value.int IntKind.i64 (newL room 0).room), SV.d (Value.int IntKind.u64 0),
                            SV.d (Value.int IntKind.u64 0), SV.d (Value.int IntKind.i64 0), SV.mp 2],
                        AB.pm []] :
                    St }
                  (T.go [false, false, false, false, false, false] (t6 room ns z f att tmo)).kont)))))) := by kernel_rfl


def H6 (ns : Nat) (f : Nat → Int) (L : LSt) : Heap := [.ro 1 ns (inF f), .cells 86 (lc L 2), .pm L.es]
def x6 (ns z : Nat) (att tmo i : Int) : List AV := [.e (.s (.sl 0 1 0 ns z)), .d (.int .i64 att), .d (.int .i64 tmo), .e (.s (.ptr 1 0)), .d (.int .i64 i)]

noncomputable def t6b (ns z : Nat) (f : Nat → Int) (att tmo : Int) (L : LSt) (i : Int) (vs : Nat → Value) : T (Exit × List AV × Heap) := bodyT Try.prog e6 1 o6 1 (loopAt Try.prog 6 0) [1, 2, 3, 9, 11] 147 (x6 ns z att tmo i) (H6 ns f L) vs

theorem t6b_eq (ns z : Nat) (f : Nat → Int) (att tmo : Int) (L : LSt) (i : Int) (vs : Nat → Value) : t6b ns z f att tmo L i vs =
    T.ite (decide (i < (↑ns : Int)))
      (T.need (0 ≤ i ∧ i < (↑ns : Int))
        (T.need (0 + i.toNat < ns)
          (T.need L.Ok
            (T.ret
              (Exit.normal,
                [AV.e (EV.s (SV.sl 0 1 0 ns z)), AV.e (EV.s (SV.d (Value.int IntKind.i64 att))),
                  AV.e (EV.s (SV.d (Value.int IntKind.i64 tmo))), AV.e (EV.s (SV.ptr 1 0)),
                  AV.e (EV.s (SV.d (Value.int IntKind.i64 (IntKind.i64.wrap (i + 1)))))],
                [AB.ro 1 ns (inF f),
                  AB.cells 86
                    [SV.d (Value.int IntKind.i64 (sendL L 0 1 (f (0 + i.toNat))).room),
                      SV.d (Value.int IntKind.u64 (sendL L 0 1 (f (0 + i.toNat))).first),
                      SV.d (Value.int IntKind.u64 (sendL L 0 1 (f (0 + i.toNat))).next),
                      SV.d (Value.int IntKind.i64 (sendL L 0 1 (f (0 + i.toNat))).last), SV.mp 2],
                  AB.pm (sendL L 0 1 (f (0 + i.toNat))).es])))))
      (T.ret
        (Exit.exit 0,
          [AV.e (EV.s (SV.sl 0 1 0 ns z)), AV.e (EV.s (SV.d (Value.int IntKind.i64 att))),
            AV.e (EV.s (SV.d (Value.int IntKind.i64 tmo))), AV.e (EV.s (SV.ptr 1 0)),
            AV.e (EV.s (SV.d (Value.int IntKind.i64 i)))],
          [AB.ro 1 ns (inF f),
            AB.cells 86
              [SV.d (Value.int IntKind.i64 L.room), SV.d (Value.int IntKind.u64 L.first),
                SV.d (Value.int IntKind.u64 L.next), SV.d (Value.int IntKind.i64 L.last), SV.mp 2],
            AB.pm L.es])) := by kernel_rfl


noncomputable def t6k (room : Int) (ns z : Nat) (f : Nat → Int) (att tmo : Int) (L : LSt) (i : Int) (vs : Nat → Value) : T (AV × Heap) := ((t6 room ns z f att tmo).go [false, false, false, false, false, false]).kont (.exit 0) ⟨fat [1, 2, 3, 9, 11] vs (x6 ns z att tmo i) 147 0, H6 ns f L⟩

theorem t6k_eq (room : Int) (ns z : Nat) (f : Nat → Int) (att tmo : Int) (L : LSt) (i : Int) (vs : Nat → Value) : t6k room ns z f att tmo L i vs =
    T.need L.Ok
      (T.need (L.Ok ∧ I64 att ∧ I64 tmo)
        (T.need (expL L att tmo).Ok
          (T.code 1 (loopAt Try.prog 6 1).loop
            {
              fr :=
                [AV.e (EV.s (SV.d (vs 0))), AV.e (EV.s (SV.sl 0 1 0 ns z)), AV.e (EV.s (SV.d (Value.int IntKind.i64 att))),
                  AV.e (EV.s (SV.d (Value.int IntKind.i64 tmo))), AV.e (EV.s (SV.d (vs 4))), AV.e (EV.s (SV.d (vs 5))),
                  AV.e (EV.s (SV.d (vs 6))), AV.e (EV.s (SV.d (vs 7))), AV.e (EV.s (SV.d (vs 8))), AV.e (EV.s (SV.ptr 1 0)),
                  AV.e (EV.s (SV.d (vs 10))), AV.e (EV.s (SV.d (Value.int IntKind.i64 i))),
                  AV.e (EV.s (SV.sl 3 4 0 L.es.length 0)), AV.e (EV.s (SV.sl 4 4 0 (expP L att tmo).length 0)),
                  AV.e (EV.s (SV.sl 5 4 0 (expL L att tmo).es.length 0)), AV.e (EV.s (SV.c (Value.int IntKind.i64 0))),
                  AV.e (EV.s (SV.d (vs 16))), AV.e (EV.s (SV.d (vs 17))), AV.e (EV.s (SV.d (vs 18))),
                  AV.e (EV.s (SV.d (vs 19))), AV.e (EV.s (SV.d (vs 20))), AV.e (EV.s (SV.d (vs 21))),
                  AV.e (EV.s (SV.d (vs 22))), AV.e (EV.s (SV.d (vs 23))), AV.e (EV.s (SV.d (vs 24))),
                  AV.e (EV.s (SV.d (vs 25))), AV.e (EV.s (SV.d (vs 26))), AV.e (EV.s (SV.d (vs 27))),
                  AV.e (EV.s (SV.d (vs 28))), AV.e (EV.s (SV.d (vs 29))), AV.e (EV.s (SV.d (vs 30))),
                  AV.e (EV.s (SV.d (vs 31))), AV.e (EV.s (SV.d (vs 32))), AV.e (EV.s (SV.d (vs 33))),
                  AV.e (EV.s (SV.d (vs 34))), AV.e (EV.s (SV.d (vs 35))), AV.e (EV.s (SV.d (vs 36))),
                  AV.e (EV.s (SV.d (vs 37))), AV.e (EV.s (SV.d (vs 38))), AV.e (EV.s (SV.d (vs 39))),
                  AV.e (EV.s (SV.d (vs 40))), AV.e (EV.s (SV.d (vs 41))), AV.e (EV.s (SV.d (vs 42))),
                  AV.e (EV.s (SV.d (vs 43))), AV.e (EV.s (SV.d (vs 44))), AV.e (EV.s (SV.d (vs 45))),
                  AV.e (EV.s (SV.d (vs 46))), AV.e (EV.s (SV.d (vs 47))), AV.e (EV.s (SV.d (vs 48))),
                  AV.e (EV.s (SV.d (vs 49))), AV.e (EV.s (SV.d (vs 50))), AV.e (EV.s (SV.d (vs 51))),
                  AV.e (EV.s (SV.d (vs 52))), AV.e (EV.s (SV.d (vs 53))), AV.e (EV.s (SV.d (vs 54))),
                  AV.e (EV.s (SV.d (vs 55))), AV.e (EV.s (SV.d (vs 56))), AV.e (EV.s (SV.d (vs 57))),
                  AV.e (EV.s (SV.d (vs 58))), AV.e (EV.s (SV.d (vs 59))), AV.e (EV.s (SV.d (vs 60))),
                  AV.e (EV.s (SV.d (vs 61))), AV.e (EV.s (SV.ptr 1 0)), AV.e (EV.s (SV.sl 3 4 0 L.es.length 0)),
                  AV.e (EV.s (SV.ptr 1 0)), AV.e (EV.s (SV.d (Value.int IntKind.i64 att))),
                  AV.e (EV.s (SV.d (Value.int IntKind.i64 tmo))), AV.e (EV.s (SV.sl 4 4 0 (expP L att tmo).length 0)),
                  AV.e (EV.s (SV.ptr 1 0)), AV.e (EV.s (SV.sl 5 4 0 (expL L att tmo).es.length 0)),
                  AV.e (EV.s (SV.d (vs 70))), AV.e (EV.s (SV.d (vs 71))), AV.e (EV.s (SV.d (vs 72))),
                  AV.e (EV.s (SV.d (vs 73))), AV.e (EV.s (SV.d (vs 74))), AV.e (EV.s (SV.d (vs 75))),
                  AV.e (EV.s (SV.d (vs 76))), AV.e (EV.s (SV.d (vs 77))), AV.e (EV.s (SV.d (vs 78))),
                  AV.e (EV.s (SV.d (vs 79))), AV.e (EV.s (SV.d (vs 80))), AV.e (EV.s (SV.d (vs 81))),
                  AV.e (EV.s (SV.d (vs 82))), AV.e (EV.s (SV.d (vs 83))), AV.e (EV.s (SV.d (vs 84))),
                  AV.e (EV.s (SV.d (vs 85))), AV.e (EV.s (SV.d (vs 86))), AV.e (EV.s (SV.d (vs 87))),
                  AV.e (EV.s (SV.d (vs 88))), AV.e (EV.s (SV.d (vs 89))), AV.e (EV.s (SV.d (vs 90))),
                  AV.e (EV.s (SV.d (vs 91))), AV.e (EV.s (SV.d (vs 92))), AV.e (EV.s (SV.d (vs 93))),
                  AV.e (EV.s (SV.d (vs 94))), AV.e (EV.s (SV.d (vs 95))), AV.e (EV.s (SV.d (vs 96))),
                  AV.e (EV.s (SV.d (vs 97))), AV.e (EV.s (SV.d (vs 98))), AV.e (EV.s (SV.d (vs 99))),
                  AV.e (EV.s (SV.d (vs 100))), AV.e (EV.s (SV.d (vs 101))), AV.e (EV.s (SV.d (vs 102))),
                  AV.e (EV.s (SV.d (vs 103))), AV.e (EV.s (SV.d (vs 104))), AV.e (EV.s (SV.d (vs 105))),
                  AV.e (EV.s (SV.d (vs 106))), AV.e (EV.s (SV.d (vs 107))), AV.e (EV.s (SV.d (vs 108))),
                  AV.e (EV.s (SV.d (vs 109))), AV.e (EV.s (SV.d (vs 110))), AV.e (EV.s (SV.d (vs 111))),
                  AV.e (EV.s (SV.d (vs 112))), AV.e (EV.s (SV.d (vs 113))), AV.e (EV.s (SV.d (vs 114))),
                  AV.e (EV.s (SV.d (vs 115))), AV.e (EV.s (SV.d (vs 116))), AV.e (EV.s (SV.d (vs 117))),
                  AV.e (EV.s (SV.d (vs 118))), AV.e (EV.s (SV.d (vs 119))), AV.e (EV.s (SV.d (vs 120))),
                  AV.e (EV.s (SV.d (vs 121))), AV.e (EV.s (SV.d (vs 122))), AV.e (EV.s (SV.d (vs 123))),
                  AV.e (EV.s (SV.d (vs 124))), AV.e (EV.s (SV.d (vs 125))), AV.e (EV.s (SV.d (vs 126))),
                  AV.e (EV.s (SV.d (vs 127))), AV.e (EV.s (SV.d (vs 128))), AV.e (EV.s (SV.d (vs 129))),
                  AV.e (EV.s (SV.d (vs 130))), AV.e (EV.s (SV.d (vs 131))), AV.e (EV.s (SV.d (vs 132))),
                  AV.e (EV.s (SV.d (vs 133))), AV.e (EV.s (SV.d (vs 134))), AV.e (EV.s (SV.d (vs 135))),
                  AV.e (EV.s (SV.d (vs 136))), AV.e (EV.s (SV.d (vs 137))), AV.e (EV.s (SV.d (vs 138))),
                  AV.e (EV.s (SV.d (vs 139))), AV.e (EV.s (SV.d (vs 140))), AV.e (EV.s (SV.d (vs 141))),
                  AV.e (EV.s (SV.d (vs 142))), AV.e (EV.s (SV.d (vs 143))), AV.e (EV.s (SV.d (vs 144))),
                  AV.e (EV.s (SV.d (vs 145))), AV.e (EV.s (SV.d (vs 146)))],
              H :=
                [AB.ro 1 ns (inF f),
                  AB.cells 86
                    [SV.d (Value.int IntKind.i64 (expL L att tmo).room),
                      SV.d (Value.int IntKind.u64 (expL L att tmo).first),
                      SV.d (Value.int IntKind.u64 (expL L att tmo).next),
                      SV.d (Value.int IntKind.i64 (expL L att tmo).last), SV.mp 2],
                  AB.pm (expL L att tmo).es, AB.row 36 4 L.es.length (pkG L.es),
                  AB.row 36 4 (expP L att tmo).length (pkG (expP L att tmo)),
                  AB.row 36 4 (expL L att tmo).es.length (pkG (expL L att tmo).es)] :
              St }
            (T.go [true, true, true] (t6k room ns z f att tmo L i vs)).kont))) := by kernel_rfl


/-- Three rows: all, those that went, those that are left. -/
def G6 (ns : Nat) (f : Nat → Int) (L : LSt) (na ng nl : Nat) (fa fg fl : Nat → Pkt) : Heap := [.ro 1 ns (inF f), .cells 86 (lc L 2), .pm L.es, .row 36 4 na (pkF fa), .row 36 4 ng (pkF fg), .row 36 4 nl (pkF fl)]
def y6 (att tmo : Int) (na ng nl : Nat) (i : Int) : List AV := [.d (.int .i64 att), .d (.int .i64 tmo), .e (.s (.sl 3 4 0 na 0)), .e (.s (.sl 4 4 0 ng 0)), .e (.s (.sl 5 4 0 nl 0)), .d (.int .i64 i)]

noncomputable def t6c (ns : Nat) (f : Nat → Int) (att tmo : Int) (L : LSt) (na ng nl : Nat) (fa fg fl : Nat → Pkt) (i : Int) (vs : Nat → Value) : T (Exit × List AV × Heap) := bodyT Try.prog e6 1 o6 1 (loopAt Try.prog 6 1) [2, 3, 12, 13, 14, 15] 147 (y6 att tmo na ng nl i) (G6 ns f L na ng nl fa fg fl) vs

theorem t6c_eq (ns : Nat) (f : Nat → Int) (att tmo : Int) (L : LSt) (na ng nl : Nat) (fa fg fl : Nat → Pkt) (i : Int) (vs : Nat → Value) : t6c ns f att tmo L na ng nl fa fg fl i vs =
    T.ite (decide (i < (↑ng : Int)))
      (T.need (0 ≤ i ∧ i < (↑ng : Int))
        (T.need (0 + i.toNat < ng)
          (T.ite (decide (IntKind.i64.wrap (att - (fg (0 + i.toNat)).sent) < tmo))
            (T.ret
              (Exit.ret,
                [AV.e (EV.s (SV.d (Value.int IntKind.i64 att))), AV.e (EV.s (SV.d (Value.int IntKind.i64 tmo))),
                  AV.e (EV.s (SV.sl 3 4 0 na 0)), AV.e (EV.s (SV.sl 4 4 0 ng 0)), AV.e (EV.s (SV.sl 5 4 0 nl 0)),
                  AV.e (EV.s (SV.d (Value.int IntKind.i64 i)))],
                [AB.ro 1 ns (inF f),
                  AB.cells 86
                    [SV.d (Value.int IntKind.i64 L.room), SV.d (Value.int IntKind.u64 L.first),
                      SV.d (Value.int IntKind.u64 L.next), SV.d (Value.int IntKind.i64 L.last), SV.mp 2],
                  AB.pm L.es, AB.row 36 4 na (pkF fa), AB.row 36 4 ng (pkF fg), AB.row 36 4 nl (pkF fl)]))
            (T.ite (decide (i > 0))
              (T.need (0 ≤ i ∧ i < (↑ng : Int))
                (T.need (0 + i.toNat < ng)
                  (T.need (0 ≤ IntKind.i64.wrap (i - 1) ∧ IntKind.i64.wrap (i - 1) < (↑ng : Int))
                    (T.need (0 + (IntKind.i64.wrap (i - 1)).toNat < ng)
                      (T.ite (decide ((fg (0 + i.toNat)).seq ≤ (fg (0 + (IntKind.i64.wrap (i - 1)).toNat)).seq))
                        (T.ret
                          (Exit.ret,
                            [AV.e (EV.s (SV.d (Value.int IntKind.i64 att))), AV.e (EV.s (SV.d (Value.int IntKind.i64 tmo))),
                              AV.e (EV.s (SV.sl 3 4 0 na 0)), AV.e (EV.s (SV.sl 4 4 0 ng 0)),
                              AV.e (EV.s (SV.sl 5 4 0 nl 0)), AV.e (EV.s (SV.d (Value.int IntKind.i64 i)))],
                            [AB.ro 1 ns (inF f),
                              AB.cells 86
                                [SV.d (Value.int IntKind.i64 L.room), SV.d (Value.int IntKind.u64 L.first),
                                  SV.d (Value.int IntKind.u64 L.next), SV.d (Value.int IntKind.i64 L.last), SV.mp 2],
                              AB.pm L.es, AB.row 36 4 na (pkF fa), AB.row 36 4 ng (pkF fg), AB.row 36 4 nl (pkF fl)]))
                        (T.ret
                          (Exit.normal,
                            [AV.e (EV.s (SV.d (Value.int IntKind.i64 att))), AV.e (EV.s (SV.d (Value.int IntKind.i64 tmo))),
                              AV.e (EV.s (SV.sl 3 4 0 na 0)), AV.e (EV.s (SV.sl 4 4 0 ng 0)),
                              AV.e (EV.s (SV.sl 5 4 0 nl 0)),
                              AV.e (EV.s (SV.d (Value.int IntKind.i64 (IntKind.i64.wrap (i + 1)))))],
                            [AB.ro 1 ns (inF f),
                              AB.cells 86
                                [SV.d (Value.int IntKind.i64 L.room), SV.d (Value.int IntKind.u64 L.first),
                                  SV.d (Value.int IntKind.u64 L.next), SV.d (Value.int IntKind.i64 L.last), SV.mp 2],
                              AB.pm L.es, AB.row 36 4 na (pkF fa), AB.row 36 4 ng (pkF fg), AB.row 36 4 nl (pkF fl)])))))))
              (T.ret
                (Exit.normal,
                  [AV.e (EV.s (SV.d (Value.int IntKind.i64 att))), AV.e (EV.s (SV.d (Value.int IntKind.i64 tmo))),
                    AV.e (EV.s (SV.sl 3 4 0 na 0)), AV.e (EV.s (SV.sl 4 4 0 ng 0)), AV.e (EV.s (SV.sl 5 4 0 nl 0)),
                    AV.e (EV.s (SV.d (Value.int IntKind.i64 (IntKind.i64.wrap (i + 1)))))],
                  [AB.ro 1 ns (inF f),
                    AB.cells 86
                      [SV.d (Value.int IntKind.i64 L.room), SV.d (Value.int IntKind.u64 L.first),
                        SV.d (Value.int IntKind.u64 L.next), SV.d (Value.int IntKind.i64 L.last), SV.mp 2],
                    AB.pm L.es, AB.row 36 4 na (pkF fa), AB.row 36 4 ng (pkF fg), AB.row 36 4 nl (pkF fl)]))))))
      (T.ret
        (Exit.exit 2,
          [AV.e (EV.s (SV.d (Value.int IntKind.i64 att))), AV.e (EV.s (SV.d (Value.int IntKind.i64 tmo))),
            AV.e (EV.s (SV.sl 3 4 0 na 0)), AV.e (EV.s (SV.sl 4 4 0 ng 0)), AV.e (EV.s (SV.sl 5 4 0 nl 0)),
            AV.e (EV.s (SV.d (Value.int IntKind.i64 i)))],
          [AB.ro 1 ns (inF f),
            AB.cells 86
              [SV.d (Value.int IntKind.i64 L.room), SV.d (Value.int IntKind.u64 L.first),
                SV.d (Value.int IntKind.u64 L.next), SV.d (Value.int IntKind.i64 L.last), SV.mp 2],
            AB.pm L.es, AB.row 36 4 na (pkF fa), AB.row 36 4 ng (pkF fg), AB.row 36 4 nl (pkF fl)])) := by kernel_rfl


noncomputable def t6d (ns : Nat) (f : Nat → Int) (att tmo : Int) (L : LSt) (na ng nl : Nat) (fa fg fl : Nat → Pkt) (i : Int) (vs : Nat → Value) : T (Exit × List AV × Heap) := bodyT Try.prog e6 1 o6 1 (loopAt Try.prog 6 2) [2, 3, 12, 13, 14, 16] 147 (y6 att tmo na ng nl i) (G6 ns f L na ng nl fa fg fl) vs

theorem t6d_eq (ns : Nat) (f : Nat → Int) (att tmo : Int) (L : LSt) (na ng nl : Nat) (fa fg fl : Nat → Pkt) (i : Int) (vs : Nat → Value) : t6d ns f att tmo L na ng nl fa fg fl i vs =
    T.ite (decide (i < (↑nl : Int)))
      (T.need (0 ≤ i ∧ i < (↑nl : Int))
        (T.need (0 + i.toNat < nl)
          (T.ite (decide (IntKind.i64.wrap (att - (fl (0 + i.toNat)).sent) ≥ tmo))
            (T.ret
              (Exit.ret,
                [AV.e (EV.s (SV.d (Value.int IntKind.i64 att))), AV.e (EV.s (SV.d (Value.int IntKind.i64 tmo))),
                  AV.e (EV.s (SV.sl 3 4 0 na 0)), AV.e (EV.s (SV.sl 4 4 0 ng 0)), AV.e (EV.s (SV.sl 5 4 0 nl 0)),
                  AV.e (EV.s (SV.d (Value.int IntKind.i64 i)))],
                [AB.ro 1 ns (inF f),
                  AB.cells 86
                    [SV.d (Value.int IntKind.i64 L.room), SV.d (Value.int IntKind.u64 L.first),
                      SV.d (Value.int IntKind.u64 L.next), SV.d (Value.int IntKind.i64 L.last), SV.mp 2],
                  AB.pm L.es, AB.row 36 4 na (pkF fa), AB.row 36 4 ng (pkF fg), AB.row 36 4 nl (pkF fl)]))
            (T.ite (decide (i > 0))
              (T.need (0 ≤ i ∧ i < (↑nl : Int))
                (T.need (0 + i.toNat < nl)
                  (T.need (0 ≤ IntKind.i64.wrap (i - 1) ∧ IntKind.i64.wrap (i - 1) < (↑nl : Int))
                    (T.need (0 + (IntKind.i64.wrap (i - 1)).toNat < nl)
                      (T.ite (decide ((fl (0 + i.toNat)).seq ≤ (fl (0 + (IntKind.i64.wrap (i - 1)).toNat)).seq))
                        (T.ret
                          (Exit.ret,
                            [AV.e (EV.s (SV.d (Value.int IntKind.i64 att))), AV.e (EV.s (SV.d (Value.int IntKind.i64 tmo))),
                              AV.e (EV.s (SV.sl 3 4 0 na 0)), AV.e (EV.s (SV.sl 4 4 0 ng 0)),
                              AV.e (EV.s (SV.sl 5 4 0 nl 0)), AV.e (EV.s (SV.d (Value.int IntKind.i64 i)))],
                            [AB.ro 1 ns (inF f),
                              AB.cells 86
                                [SV.d (Value.int IntKind.i64 L.room), SV.d (Value.int IntKind.u64 L.first),
                                  SV.d (Value.int IntKind.u64 L.next), SV.d (Value.int IntKind.i64 L.last), SV.mp 2],
                              AB.pm L.es, AB.row 36 4 na (pkF fa), AB.row 36 4 ng (pkF fg), AB.row 36 4 nl (pkF fl)]))
                        (T.ret
                          (Exit.normal,
                            [AV.e (EV.s (SV.d (Value.int IntKind.i64 att))), AV.e (EV.s (SV.d (Value.int IntKind.i64 tmo))),
                              AV.e (EV.s (SV.sl 3 4 0 na 0)), AV.e (EV.s (SV.sl 4 4 0 ng 0)),
                              AV.e (EV.s (SV.sl 5 4 0 nl 0)),
                              AV.e (EV.s (SV.d (Value.int IntKind.i64 (IntKind.i64.wrap (i + 1)))))],
                            [AB.ro 1 ns (inF f),
                              AB.cells 86
                                [SV.d (Value.int IntKind.i64 L.room), SV.d (Value.int IntKind.u64 L.first),
                                  SV.d (Value.int IntKind.u64 L.next), SV.d (Value.int IntKind.i64 L.last), SV.mp 2],
                              AB.pm L.es, AB.row 36 4 na (pkF fa), AB.row 36 4 ng (pkF fg), AB.row 36 4 nl (pkF fl)])))))))
              (T.ret
                (Exit.normal,
                  [AV.e (EV.s (SV.d (Value.int IntKind.i64 att))), AV.e (EV.s (SV.d (Value.int IntKind.i64 tmo))),
                    AV.e (EV.s (SV.sl 3 4 0 na 0)), AV.e (EV.s (SV.sl 4 4 0 ng 0)), AV.e (EV.s (SV.sl 5 4 0 nl 0)),
                    AV.e (EV.s (SV.d (Value.int IntKind.i64 (IntKind.i64.wrap (i + 1)))))],
                  [AB.ro 1 ns (inF f),
                    AB.cells 86
                      [SV.d (Value.int IntKind.i64 L.room), SV.d (Value.int IntKind.u64 L.first),
                        SV.d (Value.int IntKind.u64 L.next), SV.d (Value.int IntKind.i64 L.last), SV.mp 2],
                    AB.pm L.es, AB.row 36 4 na (pkF fa), AB.row 36 4 ng (pkF fg), AB.row 36 4 nl (pkF fl)]))))))
      (T.ret
        (Exit.exit 4,
          [AV.e (EV.s (SV.d (Value.int IntKind.i64 att))), AV.e (EV.s (SV.d (Value.int IntKind.i64 tmo))),
            AV.e (EV.s (SV.sl 3 4 0 na 0)), AV.e (EV.s (SV.sl 4 4 0 ng 0)), AV.e (EV.s (SV.sl 5 4 0 nl 0)),
            AV.e (EV.s (SV.d (Value.int IntKind.i64 i)))],
          [AB.ro 1 ns (inF f),
            AB.cells 86
              [SV.d (Value.int IntKind.i64 L.room), SV.d (Value.int IntKind.u64 L.first),
                SV.d (Value.int IntKind.u64 L.next), SV.d (Value.int IntKind.i64 L.last), SV.mp 2],
            AB.pm L.es, AB.row 36 4 na (pkF fa), AB.row 36 4 ng (pkF fg), AB.row 36 4 nl (pkF fl)])) := by kernel_rfl


noncomputable def t6l (room : Int) (ns z : Nat) (f : Nat → Int) (att tmo : Int) (L0 : LSt) (i0 : Int) (vs0 : Nat → Value) (L : LSt) (na ng nl : Nat) (fa fg fl : Nat → Pkt) (i : Int) (vs : Nat → Value) : T (AV × Heap) := ((t6k room ns z f att tmo L0 i0 vs0).go [true, true, true]).kont (.exit 2) ⟨fat [2, 3, 12, 13, 14, 15] vs (y6 att tmo na ng nl i) 147 0, G6 ns f L na ng nl fa fg fl⟩

theorem t6l_eq (room : Int) (ns z : Nat) (f : Nat → Int) (att tmo : Int) (L0 : LSt) (i0 : Int) (vs0 : Nat → Value) (L : LSt) (na ng nl : Nat) (fa fg fl : Nat → Pkt) (i : Int) (vs : Nat → Value) : t6l room ns z f att tmo L0 i0 vs0 L na ng nl fa fg fl i vs =
    T.code 1 (loopAt Try.prog 6 2).loop
      {
        fr :=
          [AV.e (EV.s (SV.d (vs 0))), AV.e (EV.s (SV.d (vs 1))), AV.e (EV.s (SV.d (Value.int IntKind.i64 att))),
            AV.e (EV.s (SV.d (Value.int IntKind.i64 tmo))), AV.e (EV.s (SV.d (vs 4))), AV.e (EV.s (SV.d (vs 5))),
            AV.e (EV.s (SV.d (vs 6))), AV.e (EV.s (SV.d (vs 7))), AV.e (EV.s (SV.d (vs 8))), AV.e (EV.s (SV.d (vs 9))),
            AV.e (EV.s (SV.d (vs 10))), AV.e (EV.s (SV.d (vs 11))), AV.e (EV.s (SV.sl 3 4 0 na 0)),
            AV.e (EV.s (SV.sl 4 4 0 ng 0)), AV.e (EV.s (SV.sl 5 4 0 nl 0)), AV.e (EV.s (SV.d (Value.int IntKind.i64 i))),
            AV.e (EV.s (SV.c (Value.int IntKind.i64 0))), AV.e (EV.s (SV.d (vs 17))), AV.e (EV.s (SV.d (vs 18))),
            AV.e (EV.s (SV.d (vs 19))), AV.e (EV.s (SV.d (vs 20))), AV.e (EV.s (SV.d (vs 21))), AV.e (EV.s (SV.d (vs 22))),
            AV.e (EV.s (SV.d (vs 23))), AV.e (EV.s (SV.d (vs 24))), AV.e (EV.s (SV.d (vs 25))), AV.e (EV.s (SV.d (vs 26))),
            AV.e (EV.s (SV.d (vs 27))), AV.e (EV.s (SV.d (vs 28))), AV.e (EV.s (SV.d (vs 29))), AV.e (EV.s (SV.d (vs 30))),
            AV.e (EV.s (SV.d (vs 31))), AV.e (EV.s (SV.d (vs 32))), AV.e (EV.s (SV.d (vs 33))), AV.e (EV.s (SV.d (vs 34))),
            AV.e (EV.s (SV.d (vs 35))), AV.e (EV.s (SV.d (vs 36))), AV.e (EV.s (SV.d (vs 37))), AV.e (EV.s (SV.d (vs 38))),
            AV.e (EV.s (SV.d (vs 39))), AV.e (EV.s (SV.d (vs 40))), AV.e (EV.s (SV.d (vs 41))), AV.e (EV.s (SV.d (vs 42))),
            AV.e (EV.s (SV.d (vs 43))), AV.e (EV.s (SV.d (vs 44))), AV.e (EV.s (SV.d (vs 45))), AV.e (EV.s (SV.d (vs 46))),
            AV.e (EV.s (SV.d (vs 47))), AV.e (EV.s (SV.d (vs 48))), AV.e (EV.s (SV.d (vs 49))), AV.e (EV.s (SV.d (vs 50))),
            AV.e (EV.s (SV.d (vs 51))), AV.e (EV.s (SV.d (vs 52))), AV.e (EV.s (SV.d (vs 53))), AV.e (EV.s (SV.d (vs 54))),
            AV.e (EV.s (SV.d (vs 55))), AV.e (EV.s (SV.d (vs 56))), AV.e (EV.s (SV.d (vs 57))), AV.e (EV.s (SV.d (vs 58))),
            AV.e (EV.s (SV.d (vs 59))), AV.e (EV.s (SV.d (vs 60))), AV.e (EV.s (SV.d (vs 61))), AV.e (EV.s (SV.d (vs 62))),
            AV.e (EV.s (SV.d (vs 63))), AV.e (EV.s (SV.d (vs 64))), AV.e (EV.s (SV.d (vs 65))), AV.e (EV.s (SV.d (vs 66))),
            AV.e (EV.s (SV.d (vs 67))), AV.e (EV.s (SV.d (vs 68))), AV.e (EV.s (SV.d (vs 69))), AV.e (EV.s (SV.d (vs 70))),
            AV.e (EV.s (SV.d (vs 71))), AV.e (EV.s (SV.d (vs 72))), AV.e (EV.s (SV.d (vs 73))), AV.e (EV.s (SV.d (vs 74))),
            AV.e (EV.s (SV.d (vs 75))), AV.e (EV.s (SV.d (vs 76))), AV.e (EV.s (SV.d (vs 77))), AV.e (EV.s (SV.d (vs 78))),
            AV.e (EV.s (SV.d (vs 79))), AV.e (EV.s (SV.d (vs 80))), AV.e (EV.s (SV.d (vs 81))), AV.e (EV.s (SV.d (vs 82))),
            AV.e (EV.s (SV.d (vs 83))), AV.e (EV.s (SV.d (vs 84))), AV.e (EV.s (SV.d (vs 85))), AV.e (EV.s (SV.d (vs 86))),
            AV.e (EV.s (SV.d (vs 87))), AV.e (EV.s (SV.d (vs 88))), AV.e (EV.s (SV.d (vs 89))), AV.e (EV.s (SV.d (vs 90))),
            AV.e (EV.s (SV.d (vs 91))), AV.e (EV.s (SV.d (vs 92))), AV.e (EV.s (SV.d (vs 93))), AV.e (EV.s (SV.d (vs 94))),
            AV.e (EV.s (SV.d (vs 95))), AV.e (EV.s (SV.d (vs 96))), AV.e (EV.s (SV.d (vs 97))), AV.e (EV.s (SV.d (vs 98))),
            AV.e (EV.s (SV.d (vs 99))), AV.e (EV.s (SV.d (vs 100))), AV.e (EV.s (SV.d (vs 101))),
            AV.e (EV.s (SV.d (vs 102))), AV.e (EV.s (SV.d (vs 103))), AV.e (EV.s (SV.d (vs 104))),
            AV.e (EV.s (SV.d (vs 105))), AV.e (EV.s (SV.d (vs 106))), AV.e (EV.s (SV.d (vs 107))),
            AV.e (EV.s (SV.d (vs 108))), AV.e (EV.s (SV.d (vs 109))), AV.e (EV.s (SV.d (vs 110))),
            AV.e (EV.s (SV.d (vs 111))), AV.e (EV.s (SV.d (vs 112))), AV.e (EV.s (SV.d (vs 113))),
            AV.e (EV.s (SV.d (vs 114))), AV.e (EV.s (SV.d (vs 115))), AV.e (EV.s (SV.d (vs 116))),
            AV.e (EV.s (SV.d (vs 117))), AV.e (EV.s (SV.d (vs 118))), AV.e (EV.s (SV.d (vs 119))),
            AV.e (EV.s (SV.d (vs 120))), AV.e (EV.s (SV.d (vs 121))), AV.e (EV.s (SV.d (vs 122))),
            AV.e (EV.s (SV.d (vs 123))), AV.e (EV.s (SV.d (vs 124))), AV.e (EV.s (SV.d (vs 125))),
            AV.e (EV.s (SV.d (vs 126))), AV.e (EV.s (SV.d (vs 127))), AV.e (EV.s (SV.d (vs 128))),
            AV.e (EV.s (SV.d (vs 129))), AV.e (EV.s (SV.d (vs 130))), AV.e (EV.s (SV.d (vs 131))),
            AV.e (EV.s (SV.d (vs 132))), AV.e (EV.s (SV.d (vs 133))), AV.e (EV.s (SV.d (vs 134))),
            AV.e (EV.s (SV.d (vs 135))), AV.e (EV.s (SV.d (vs 136))), AV.e (EV.s (SV.d (vs 137))),
            AV.e (EV.s (SV.d (vs 138))), AV.e (EV.s (SV.d (vs 139))), AV.e (EV.s (SV.d (vs 140))),
            AV.e (EV.s (SV.d (vs 141))), AV.e (EV.s (SV.d (vs 142))), AV.e (EV.s (SV.d (vs 143))),
            AV.e (EV.s (SV.d (vs 144))), AV.e (EV.s (SV.d (vs 145))), AV.e (EV.s (SV.d (vs 146)))],
        H :=
          [AB.ro 1 ns (inF f),
            AB.cells 86
              [SV.d (Value.int IntKind.i64 L.room), SV.d (Value.int IntKind.u64 L.first),
                SV.d (Value.int IntKind.u64 L.next), SV.d (Value.int IntKind.i64 L.last), SV.mp 2],
            AB.pm L.es, AB.row 36 4 na (pkF fa), AB.row 36 4 ng (pkF fg), AB.row 36 4 nl (pkF fl)] :
        St }
      (T.go [] (t6l room ns z f att tmo L0 i0 vs0 L na ng nl fa fg fl i vs)).kont := by kernel_rfl


noncomputable def t6m (room : Int) (ns z : Nat) (f : Nat → Int) (att tmo : Int) (L0 : LSt) (i0 : Int) (vs0 : Nat → Value) (L1 : LSt) (na0 ng0 nl0 : Nat) (fa0 fg0 fl0 : Nat → Pkt) (i1 : Int) (vs1 : Nat → Value) (L : LSt) (na ng nl : Nat) (fa fg fl : Nat → Pkt) (i : Int) (vs : Nat → Value) : T (AV × Heap) := ((t6l room ns z f att tmo L0 i0 vs0 L1 na0 ng0 nl0 fa0 fg0 fl0 i1 vs1).go []).kont (.exit 4) ⟨fat [2, 3, 12, 13, 14, 16] vs (y6 att tmo na ng nl i) 147 0, G6 ns f L na ng nl fa fg fl⟩

theorem t6m_eq (room : Int) (ns z : Nat) (f : Nat → Int) (att tmo : Int) (L0 : LSt) (i0 : Int) (vs0 : Nat → Value) (L1 : LSt) (na0 ng0 nl0 : Nat) (fa0 fg0 fl0 : Nat → Pkt) (i1 : Int) (vs1 : Nat → Value) (L : LSt) (na ng nl : Nat) (fa fg fl : Nat → Pkt) (i : Int) (vs : Nat → Value) : t6m room ns z f att tmo L0 i0 vs0 L1 na0 ng0 nl0 fa0 fg0 fl0 i1 vs1 L na ng nl fa fg fl i vs =
    T.ite (IntKind.i64.wrap ((↑ng : Int) + (↑nl : Int)) == (↑na : Int))
      (T.ret (AV.e (EV.s (SV.c (Value.bool true))), [AB.ro 1 ns (inF f)]))
      (T.ret (AV.e (EV.s (SV.c (Value.bool false))), [AB.ro 1 ns (inF f)])) := by kernel_rfl


theorem kl60 : codeB o6 (loopAt Try.prog 6 0) = true := by kernel_rfl
theorem kl61 : codeB o6 (loopAt Try.prog 6 1) = true := by kernel_rfl
theorem kl62 : codeB o6 (loopAt Try.prog 6 2) = true := by kernel_rfl

end Go.Proofs.Ythckkoledhjmeaa.Ev
