/-
  The abstract evaluator's trees: loops of a ledger's functions.
-/
import Derived.Test.YthckkoledhjmeaaXC
namespace Go.Proofs.Ythckkoledhjmeaa.Ev
open Go

def H15 (L : LSt) (n : Nat) (f : Nat → Pkt) (p : Pkt) (k : Nat) (g : Nat → List Value) : Heap := [.cells 44 (rc L 1 n), .row 36 4 n (pkF f), .cells 36 Pkt.zero.cells, .cells 36 p.cells, .row 36 4 k g]
def x15 (seq : Int) (k : Nat) (b : Bool) (i : Int) : List AV := [.e (.s (.ptr 0 0)), .d (.int .u64 seq), .e (.s (.ptr 2 0)), .d (.int .i64 0), .e (.s (.sl 4 4 0 k 0)), .e (.s (.ptr 3 0)), .c (.bool b), .d (.int .i64 i)]

noncomputable def t15b (L : LSt) (n : Nat) (f : Nat → Pkt) (seq : Int) (p : Pkt) (k : Nat) (g : Nat → List Value) (b : Bool) (i : Int) (vs : Nat → Value) : T (Exit × List AV × Heap) := bodyT Try.prog e15 1 oN 2 (loopAt Try.prog 15 0) [0, 1, 4, 5, 6, 7, 8, 9] 69 (x15 seq k b i) (H15 L n f p k g) vs

theorem t15b_eq (L : LSt) (n : Nat) (f : Nat → Pkt) (seq : Int) (p : Pkt) (k : Nat) (g : Nat → List Value) (b : Bool) (i : Int) (vs : Nat → Value) : t15b L n f seq p k g b i vs =
    T.ite (decide (i < (↑n : Int)))
      (T.need (0 ≤ i ∧ i < (↑n : Int))
        (T.need (0 + i.toNat < n)
          (T.ite ((f (0 + i.toNat)).seq == seq)
            (T.need (0 ≤ i ∧ i < (↑n : Int))
              (T.need (0 + i.toNat < n)
                (T.ret
                  (Exit.normal,
                    [AV.e (EV.s (SV.ptr 0 0)), AV.e (EV.s (SV.d (Value.int IntKind.u64 seq))), AV.e (EV.s (SV.ptr 2 0)),
                      AV.e (EV.s (SV.d (Value.int IntKind.i64 0))), AV.e (EV.s (SV.sl 4 4 0 k 0)), AV.e (EV.s (SV.ptr 3 0)),
                      AV.e (EV.s (SV.c (Value.bool true))),
                      AV.e (EV.s (SV.d (Value.int IntKind.i64 (IntKind.i64.wrap (i + 1)))))],
                    [AB.cells 44
                        [SV.d (Value.int IntKind.i64 L.room), SV.d (Value.int IntKind.u64 L.first),
                          SV.d (Value.int IntKind.u64 L.next), SV.d (Value.int IntKind.i64 L.last), SV.sl 1 4 0 n 0],
                      AB.row 36 4 n (pkF f),
                      AB.cells 36
                        [SV.d (Value.int IntKind.u64 0), SV.d (Value.int IntKind.i64 0), SV.d (Value.int IntKind.i64 0),
                          SV.d (Value.int IntKind.i64 0)],
                      AB.cells 36
                        [SV.d (Value.int IntKind.u64 (f (0 + i.toNat)).seq),
                          SV.d (Value.int IntKind.i64 (f (0 + i.toNat)).mi),
                          SV.d (Value.int IntKind.i64 (f (0 + i.toNat)).size),
                          SV.d (Value.int IntKind.i64 (f (0 + i.toNat)).sent)],
                      AB.row 36 4 k g]))))
            (T.need (0 ≤ i ∧ i < (↑n : Int))
              (T.need (0 + i.toNat < n)
                (T.need
                  (0 + k ≤ k ∧
                    0 + 1 ≤
                        (chunksOf (3 + 1) 1
                            [Value.int IntKind.u64 (f (0 + i.toNat)).seq, Value.int IntKind.i64 (f (0 + i.toNat)).mi,
                              Value.int IntKind.i64 (f (0 + i.toNat)).size,
                              Value.int IntKind.i64 (f (0 + i.toNat)).sent]).length ∧
                      k + 1 ≤ most)
                  (T.ret
                    (Exit.normal,
                      [AV.e (EV.s (SV.ptr 0 0)), AV.e (EV.s (SV.d (Value.int IntKind.u64 seq))), AV.e (EV.s (SV.ptr 2 0)),
                        AV.e (EV.s (SV.d (Value.int IntKind.i64 0))), AV.e (EV.s (SV.sl 6 4 0 (k + 1) 0)),
                        AV.e (EV.s (SV.ptr 3 0)), AV.e (EV.s (SV.c (Value.bool b))),
                        AV.e (EV.s (SV.d (Value.int IntKind.i64 (IntKind.i64.wrap (i + 1)))))],
                      [AB.cells 44
                          [SV.d (Value.int IntKind.i64 L.room), SV.d (Value.int IntKind.u64 L.first),
                            SV.d (Value.int IntKind.u64 L.next), SV.d (Value.int IntKind.i64 L.last), SV.sl 1 4 0 n 0],
                        AB.row 36 4 n (pkF f),
                        AB.cells 36
                          [SV.d (Value.int IntKind.u64 0), SV.d (Value.int IntKind.i64 0), SV.d (Value.int IntKind.i64 0),
                            SV.d (Value.int IntKind.i64 0)],
                        AB.cells 36
                          [SV.d (Value.int IntKind.u64 p.seq), SV.d (Value.int IntKind.i64 p.mi),
                            SV.d (Value.int IntKind.i64 p.size), SV.d (Value.int IntKind.i64 p.sent)],
                        AB.dead,
                        AB.lit 36 4
                          [[Value.int IntKind.u64 (f (0 + i.toNat)).seq, Value.int IntKind.i64 (f (0 + i.toNat)).mi,
                              Value.int IntKind.i64 (f (0 + i.toNat)).size, Value.int IntKind.i64 (f (0 + i.toNat)).sent]],
                        AB.row 36 4 (k + 1)
                          (appendG g 0 k
                            (fun j =>
                              (chunksOf (3 + 1) 1
                                    [Value.int IntKind.u64 (f (0 + i.toNat)).seq,
                                      Value.int IntKind.i64 (f (0 + i.toNat)).mi,
                                      Value.int IntKind.i64 (f (0 + i.toNat)).size,
                                      Value.int IntKind.i64 (f (0 + i.toNat)).sent]).getD
                                j [])
                            0)]))))))))
      (T.ret
        (Exit.exit 0,
          [AV.e (EV.s (SV.ptr 0 0)), AV.e (EV.s (SV.d (Value.int IntKind.u64 seq))), AV.e (EV.s (SV.ptr 2 0)),
            AV.e (EV.s (SV.d (Value.int IntKind.i64 0))), AV.e (EV.s (SV.sl 4 4 0 k 0)), AV.e (EV.s (SV.ptr 3 0)),
            AV.e (EV.s (SV.c (Value.bool b))), AV.e (EV.s (SV.d (Value.int IntKind.i64 i)))],
          [AB.cells 44
              [SV.d (Value.int IntKind.i64 L.room), SV.d (Value.int IntKind.u64 L.first),
                SV.d (Value.int IntKind.u64 L.next), SV.d (Value.int IntKind.i64 L.last), SV.sl 1 4 0 n 0],
            AB.row 36 4 n (pkF f),
            AB.cells 36
              [SV.d (Value.int IntKind.u64 0), SV.d (Value.int IntKind.i64 0), SV.d (Value.int IntKind.i64 0),
                SV.d (Value.int IntKind.i64 0)],
            AB.cells 36
              [SV.d (Value.int IntKind.u64 p.seq), SV.d (Value.int IntKind.i64 p.mi), SV.d (Value.int IntKind.i64 p.size),
                SV.d (Value.int IntKind.i64 p.sent)],
            AB.row 36 4 k g])) := by kernel_rfl


noncomputable def t15kt (L : LSt) (n : Nat) (f : Nat → Pkt) (seq : Int) (p : Pkt) (k : Nat) (g : Nat → List Value) (i : Int) (vs : Nat → Value) : T (AV × Heap) := ((t15 L n f seq).go [false, false]).kont (.exit 0) ⟨fat [0, 1, 4, 5, 6, 7, 8, 9] vs (x15 seq k true i) 69 0, H15 L n f p k g⟩

theorem t15kt_eq (L : LSt) (n : Nat) (f : Nat → Pkt) (seq : Int) (p : Pkt) (k : Nat) (g : Nat → List Value) (i : Int) (vs : Nat → Value) : t15kt L n f seq p k g i vs =
    T.ret
      (AV.tup
          [EV.agg
              [SV.d (Value.int IntKind.u64 p.seq), SV.d (Value.int IntKind.i64 p.mi), SV.d (Value.int IntKind.i64 p.size),
                SV.d (Value.int IntKind.i64 p.sent)],
            EV.s (SV.c (Value.int IntKind.i64 0))],
        [AB.cells 44
            [SV.d (Value.int IntKind.i64 L.room), SV.d (Value.int IntKind.u64 L.first), SV.d (Value.int IntKind.u64 L.next),
              SV.d (Value.int IntKind.i64 L.last), SV.sl 4 4 0 k 0],
          AB.row 36 4 n (pkF f),
          AB.cells 36
            [SV.d (Value.int IntKind.u64 p.seq), SV.d (Value.int IntKind.i64 p.mi), SV.d (Value.int IntKind.i64 p.size),
              SV.d (Value.int IntKind.i64 p.sent)],
          AB.cells 36
            [SV.d (Value.int IntKind.u64 p.seq), SV.d (Value.int IntKind.i64 p.mi), SV.d (Value.int IntKind.i64 p.size),
              SV.d (Value.int IntKind.i64 p.sent)],
          AB.row 36 4 k g]) := by kernel_rfl


noncomputable def t15kf (L : LSt) (n : Nat) (f : Nat → Pkt) (seq : Int) (p : Pkt) (k : Nat) (g : Nat → List Value) (i : Int) (vs : Nat → Value) : T (AV × Heap) := ((t15 L n f seq).go [false, false]).kont (.exit 0) ⟨fat [0, 1, 4, 5, 6, 7, 8, 9] vs (x15 seq k false i) 69 0, H15 L n f p k g⟩

theorem t15kf_eq (L : LSt) (n : Nat) (f : Nat → Pkt) (seq : Int) (p : Pkt) (k : Nat) (g : Nat → List Value) (i : Int) (vs : Nat → Value) : t15kf L n f seq p k g i vs =
    T.ret
      (AV.tup
          [EV.agg
              [SV.c (Value.int IntKind.u64 0), SV.c (Value.int IntKind.i64 0), SV.c (Value.int IntKind.i64 0),
                SV.c (Value.int IntKind.i64 0)],
            EV.s (SV.c (Value.int IntKind.i64 4))],
        [AB.cells 44
            [SV.d (Value.int IntKind.i64 L.room), SV.d (Value.int IntKind.u64 L.first), SV.d (Value.int IntKind.u64 L.next),
              SV.d (Value.int IntKind.i64 L.last), SV.sl 1 4 0 n 0],
          AB.row 36 4 n (pkF f)]) := by kernel_rfl


noncomputable def t18 (L : LSt) (n : Nat) (f : Nat → Pkt) (att tmo : Int) : T (AV × Heap) := callT Try.prog (entL e18) 2 18 [.e (.s (.ptr 0 0)), .d (.int .i64 att), .d (.int .i64 tmo)] [.cells 44 (rc L 1 n), .row 36 4 n (pkF f)] fun r H' => .ret (r, H')

theorem t18_eq (L : LSt) (n : Nat) (f : Nat → Pkt) (att tmo : Int) : t18 L n f att tmo =
    T.code 2 (loopAt Try.prog 18 0).loop
      {
        fr :=
          [AV.e (EV.s (SV.ptr 0 0)), AV.e (EV.s (SV.d (Value.int IntKind.i64 att))),
            AV.e (EV.s (SV.d (Value.int IntKind.i64 tmo))), AV.tup [], AV.tup [], AV.tup [],
            AV.e (EV.s (SV.c (Value.slice none 0 0))), AV.e (EV.s (SV.c (Value.slice none 0 0))),
            AV.e (EV.s (SV.c (Value.slice none 0 0))), AV.e (EV.s (SV.c (Value.int IntKind.i64 0))), AV.tup [], AV.tup [],
            AV.tup [], AV.tup [], AV.tup [], AV.tup [], AV.tup [], AV.tup [], AV.tup [], AV.tup [], AV.tup [], AV.tup [],
            AV.tup [], AV.tup [], AV.tup [], AV.tup [], AV.tup [], AV.tup [], AV.tup [], AV.tup [], AV.tup [], AV.tup [],
            AV.tup [], AV.tup [], AV.tup [], AV.tup [], AV.tup [], AV.tup [], AV.tup [], AV.tup [], AV.tup [], AV.tup [],
            AV.tup [], AV.tup [], AV.tup [], AV.tup [], AV.tup [], AV.tup [], AV.tup [], AV.tup [], AV.tup [], AV.tup [],
            AV.tup [], AV.tup []],
        H :=
          [AB.cells 44
              [SV.d (Value.int IntKind.i64 L.room), SV.d (Value.int IntKind.u64 L.first),
                SV.d (Value.int IntKind.u64 L.next), SV.d (Value.int IntKind.i64 L.last), SV.sl 1 4 0 n 0],
            AB.row 36 4 n (pkF f)] :
        St }
      (T.go [] (t18 L n f att tmo)).kont := by kernel_rfl


def H18 (L : LSt) (n : Nat) (f : Nat → Pkt) (k : Nat) (g : Nat → List Value) (m : Nat) (h : Nat → List Value) : Heap := [.cells 44 (rc L 1 n), .row 36 4 n (pkF f), .row 36 4 k g, .row 36 4 m h]
def x18 (att tmo : Int) (k m : Nat) (i : Int) : List AV := [.e (.s (.ptr 0 0)), .d (.int .i64 att), .d (.int .i64 tmo), .e (.s (.sl 2 4 0 k 0)), .e (.s (.sl 3 4 0 m 0)), .d (.int .i64 i)]

noncomputable def t18b (L : LSt) (n : Nat) (f : Nat → Pkt) (att tmo : Int) (k : Nat) (g : Nat → List Value) (m : Nat) (h : Nat → List Value) (i : Int) (vs : Nat → Value) : T (Exit × List AV × Heap) := bodyT Try.prog e18 1 oN 2 (loopAt Try.prog 18 0) [0, 1, 2, 7, 8, 9] 54 (x18 att tmo k m i) (H18 L n f k g m h) vs

theorem t18b_eq (L : LSt) (n : Nat) (f : Nat → Pkt) (att tmo : Int) (k : Nat) (g : Nat → List Value) (m : Nat) (h : Nat → List Value) (i : Int) (vs : Nat → Value) : t18b L n f att tmo k g m h i vs =
    T.ite (decide (i < (↑n : Int)))
      (T.need (0 ≤ i ∧ i < (↑n : Int))
        (T.need (0 + i.toNat < n)
          (T.need (I64 att ∧ I64 tmo ∧ 0 ≤ (f (0 + i.toNat)).sent ∧ (f (0 + i.toNat)).sent ≤ 1099511627776)
            (T.ite (overX att tmo (f (0 + i.toNat)))
              (T.need (0 ≤ i ∧ i < (↑n : Int))
                (T.need (0 + i.toNat < n)
                  (T.need
                    (0 + m ≤ m ∧
                      0 + 1 ≤
                          (chunksOf (3 + 1) 1
                              [Value.int IntKind.u64 (f (0 + i.toNat)).seq, Value.int IntKind.i64 (f (0 + i.toNat)).mi,
                                Value.int IntKind.i64 (f (0 + i.toNat)).size,
                                Value.int IntKind.i64 (f (0 + i.toNat)).sent]).length ∧
                        m + 1 ≤ most)
                    (T.ret
                      (Exit.normal,
                        [AV.e (EV.s (SV.ptr 0 0)), AV.e (EV.s (SV.d (Value.int IntKind.i64 att))),
                          AV.e (EV.s (SV.d (Value.int IntKind.i64 tmo))), AV.e (EV.s (SV.sl 2 4 0 k 0)),
                          AV.e (EV.s (SV.sl 5 4 0 (m + 1) 0)),
                          AV.e (EV.s (SV.d (Value.int IntKind.i64 (IntKind.i64.wrap (i + 1)))))],
                        [AB.cells 44
                            [SV.d (Value.int IntKind.i64 L.room), SV.d (Value.int IntKind.u64 L.first),
                              SV.d (Value.int IntKind.u64 L.next), SV.d (Value.int IntKind.i64 L.last), SV.sl 1 4 0 n 0],
                          AB.row 36 4 n (pkF f), AB.row 36 4 k g, AB.dead,
                          AB.lit 36 4
                            [[Value.int IntKind.u64 (f (0 + i.toNat)).seq, Value.int IntKind.i64 (f (0 + i.toNat)).mi,
                                Value.int IntKind.i64 (f (0 + i.toNat)).size,
                                Value.int IntKind.i64 (f (0 + i.toNat)).sent]],
                          AB.row 36 4 (m + 1)
                            (appendG h 0 m
                              (fun j =>
                                (chunksOf (3 + 1) 1
                                      [Value.int IntKind.u64 (f (0 + i.toNat)).seq,
                                        Value.int IntKind.i64 (f (0 + i.toNat)).mi,
                                        Value.int IntKind.i64 (f (0 + i.toNat)).size,
                                        Value.int IntKind.i64 (f (0 + i.toNat)).sent]).getD
                                  j [])
                              0)])))))
              (T.need (0 ≤ i ∧ i < (↑n : Int))
                (T.need (0 + i.toNat < n)
                  (T.need
                    (0 + k ≤ k ∧
                      0 + 1 ≤
                          (chunksOf (3 + 1) 1
                              [Value.int IntKind.u64 (f (0 + i.toNat)).seq, Value.int IntKind.i64 (f (0 + i.toNat)).mi,
                                Value.int IntKind.i64 (f (0 + i.toNat)).size,
                                Value.int IntKind.i64 (f (0 + i.toNat)).sent]).length ∧
                        k + 1 ≤ most)
                    (T.ret
                      (Exit.normal,
                        [AV.e (EV.s (SV.ptr 0 0)), AV.e (EV.s (SV.d (Value.int IntKind.i64 att))),
                          AV.e (EV.s (SV.d (Value.int IntKind.i64 tmo))), AV.e (EV.s (SV.sl 5 4 0 (k + 1) 0)),
                          AV.e (EV.s (SV.sl 3 4 0 m 0)),
                          AV.e (EV.s (SV.d (Value.int IntKind.i64 (IntKind.i64.wrap (i + 1)))))],
                        [AB.cells 44
                            [SV.d (Value.int IntKind.i64 L.room), SV.d (Value.int IntKind.u64 L.first),
                              SV.d (Value.int IntKind.u64 L.next), SV.d (Value.int IntKind.i64 L.last), SV.sl 1 4 0 n 0],
                          AB.row 36 4 n (pkF f), AB.dead, AB.row 36 4 m h,
                          AB.lit 36 4
                            [[Value.int IntKind.u64 (f (0 + i.toNat)).seq, Value.int IntKind.i64 (f (0 + i.toNat)).mi,
                                Value.int IntKind.i64 (f (0 + i.toNat)).size,
                                Value.int IntKind.i64 (f (0 + i.toNat)).sent]],
                          AB.row 36 4 (k + 1)
                            (appendG g 0 k
                              (fun j =>
                                (chunksOf (3 + 1) 1
                                      [Value.int IntKind.u64 (f (0 + i.toNat)).seq,
                                        Value.int IntKind.i64 (f (0 + i.toNat)).mi,
                                        Value.int IntKind.i64 (f (0 + i.toNat)).size,
                                        Value.int IntKind.i64 (f (0 + i.toNat)).sent]).getD
                                  j [])
                              0)])))))))))
      (T.ret
        (Exit.exit 0,
          [AV.e (EV.s (SV.ptr 0 0)), AV.e (EV.s (SV.d (Value.int IntKind.i64 att))),
            AV.e (EV.s (SV.d (Value.int IntKind.i64 tmo))), AV.e (EV.s (SV.sl 2 4 0 k 0)), AV.e (EV.s (SV.sl 3 4 0 m 0)),
            AV.e (EV.s (SV.d (Value.int IntKind.i64 i)))],
          [AB.cells 44
              [SV.d (Value.int IntKind.i64 L.room), SV.d (Value.int IntKind.u64 L.first),
                SV.d (Value.int IntKind.u64 L.next), SV.d (Value.int IntKind.i64 L.last), SV.sl 1 4 0 n 0],
            AB.row 36 4 n (pkF f), AB.row 36 4 k g, AB.row 36 4 m h])) := by kernel_rfl


noncomputable def t18k (L : LSt) (n : Nat) (f : Nat → Pkt) (att tmo : Int) (k : Nat) (g : Nat → List Value) (m : Nat) (h : Nat → List Value) (i : Int) (vs : Nat → Value) : T (AV × Heap) := ((t18 L n f att tmo).go []).kont (.exit 0) ⟨fat [0, 1, 2, 7, 8, 9] vs (x18 att tmo k m i) 54 0, H18 L n f k g m h⟩

theorem t18k_eq (L : LSt) (n : Nat) (f : Nat → Pkt) (att tmo : Int) (k : Nat) (g : Nat → List Value) (m : Nat) (h : Nat → List Value) (i : Int) (vs : Nat → Value) : t18k L n f att tmo k g m h i vs =
    T.ret
      (AV.e (EV.s (SV.sl 3 4 0 m 0)),
        [AB.cells 44
            [SV.d (Value.int IntKind.i64 L.room), SV.d (Value.int IntKind.u64 L.first), SV.d (Value.int IntKind.u64 L.next),
              SV.d (Value.int IntKind.i64 L.last), SV.sl 2 4 0 k 0],
          AB.row 36 4 n (pkF f), AB.row 36 4 k g, AB.row 36 4 m h]) := by kernel_rfl


def H17 (L : LSt) (es : List Pkt) (att tmo : Int) (n : Nat) (f : Nat → Pkt) : Heap := [.cells 86 (lc L 1), .pm es, .cells 3 [.d (.int .i64 att)], .cells 3 [.d (.int .i64 tmo)], .row 36 4 n (pkF f)]
def x17 (n : Nat) (i : Int) : List AV := [.e (.s (.ptr 0 0)), .e (.s (.sl 4 4 0 n 0)), .e (.s (.sl 4 4 0 n 0)), .d (.int .i64 n), .d (.int .i64 i)]

noncomputable def t17c (L : LSt) (att tmo : Int) (n : Nat) (f : Nat → Pkt) : T (AV × Heap) := ((t17 L att tmo).go []).kontC (.e (.s (.sl 4 4 0 n 0))) (H17 L L.es att tmo n f)

theorem t17c_eq (L : LSt) (att tmo : Int) (n : Nat) (f : Nat → Pkt) : t17c L att tmo n f =
    T.code 2 (loopAt Try.prog 17 0).loop
      {
        fr :=
          [AV.e (EV.s (SV.ptr 0 0)), AV.e (EV.s (SV.d (Value.int IntKind.i64 att))),
            AV.e (EV.s (SV.d (Value.int IntKind.i64 tmo))), AV.tup [], AV.e (EV.s (SV.ptr 2 0)), AV.e (EV.s (SV.ptr 3 0)),
            AV.e (EV.s (SV.c (Value.slice none 0 0))), AV.e (EV.s (SV.sl 4 4 0 n 0)), AV.tup [], AV.tup [],
            AV.e (EV.s (SV.ptr 0 0)), AV.e (EV.s (SV.c (Value.bool false))), AV.e (EV.s (SV.ptr 0 0)),
            AV.e (EV.s (SV.fn 42 [(2, 0), (3, 0)])), AV.e (EV.s (SV.sl 4 4 0 n 0)), AV.e (EV.s (SV.sl 4 4 0 n 0)),
            AV.e (EV.s (SV.d (Value.int IntKind.i64 (↑n : Int)))), AV.e (EV.s (SV.c (Value.int IntKind.i64 0))), AV.tup [],
            AV.tup [], AV.tup [], AV.tup [], AV.tup [], AV.tup [], AV.tup [], AV.tup [], AV.tup [], AV.tup [], AV.tup []],
        H :=
          [AB.cells 86
              [SV.d (Value.int IntKind.i64 L.room), SV.d (Value.int IntKind.u64 L.first),
                SV.d (Value.int IntKind.u64 L.next), SV.d (Value.int IntKind.i64 L.last), SV.mp 1],
            AB.pm L.es, AB.cells 3 [SV.d (Value.int IntKind.i64 att)], AB.cells 3 [SV.d (Value.int IntKind.i64 tmo)],
            AB.row 36 4 n (pkF f)] :
        St }
      (T.go [] (t17c L att tmo n f)).kont := by kernel_rfl


noncomputable def t17b (L : LSt) (es : List Pkt) (att tmo : Int) (n : Nat) (f : Nat → Pkt) (i : Int) (vs : Nat → Value) : T (Exit × List AV × Heap) := bodyT Try.prog e17 1 o17 2 (loopAt Try.prog 17 0) [0, 7, 15, 16, 17] 29 (x17 n i) (H17 L es att tmo n f) vs

theorem t17b_eq (L : LSt) (es : List Pkt) (att tmo : Int) (n : Nat) (f : Nat → Pkt) (i : Int) (vs : Nat → Value) : t17b L es att tmo n f i vs =
    T.ite (decide (i < (↑n : Int)))
      (T.need (0 ≤ i ∧ i < (↑n : Int))
        (T.need (0 + i.toNat < n)
          (T.ret
            (Exit.normal,
              [AV.e (EV.s (SV.ptr 0 0)), AV.e (EV.s (SV.sl 4 4 0 n 0)), AV.e (EV.s (SV.sl 4 4 0 n 0)),
                AV.e (EV.s (SV.d (Value.int IntKind.i64 (↑n : Int)))),
                AV.e (EV.s (SV.d (Value.int IntKind.i64 (IntKind.i64.wrap (i + 1)))))],
              [AB.cells 86
                  [SV.d (Value.int IntKind.i64 L.room), SV.d (Value.int IntKind.u64 L.first),
                    SV.d (Value.int IntKind.u64 L.next), SV.d (Value.int IntKind.i64 L.last), SV.mp 1],
                AB.pm (delP es (f (0 + i.toNat)).seq), AB.cells 3 [SV.d (Value.int IntKind.i64 att)],
                AB.cells 3 [SV.d (Value.int IntKind.i64 tmo)], AB.row 36 4 n (pkF f),
                AB.cells 36
                  [SV.d (Value.int IntKind.u64 (f (0 + i.toNat)).seq), SV.d (Value.int IntKind.i64 (f (0 + i.toNat)).mi),
                    SV.d (Value.int IntKind.i64 (f (0 + i.toNat)).size),
                    SV.d (Value.int IntKind.i64 (f (0 + i.toNat)).sent)]]))))
      (T.ret
        (Exit.exit 0,
          [AV.e (EV.s (SV.ptr 0 0)), AV.e (EV.s (SV.sl 4 4 0 n 0)), AV.e (EV.s (SV.sl 4 4 0 n 0)),
            AV.e (EV.s (SV.d (Value.int IntKind.i64 (↑n : Int)))), AV.e (EV.s (SV.d (Value.int IntKind.i64 i)))],
          [AB.cells 86
              [SV.d (Value.int IntKind.i64 L.room), SV.d (Value.int IntKind.u64 L.first),
                SV.d (Value.int IntKind.u64 L.next), SV.d (Value.int IntKind.i64 L.last), SV.mp 1],
            AB.pm es, AB.cells 3 [SV.d (Value.int IntKind.i64 att)], AB.cells 3 [SV.d (Value.int IntKind.i64 tmo)],
            AB.row 36 4 n (pkF f)])) := by kernel_rfl


noncomputable def t17k (L : LSt) (es : List Pkt) (att tmo : Int) (n : Nat) (f : Nat → Pkt) (i : Int) (vs : Nat → Value) : T (AV × Heap) := ((t17c L att tmo n f).go []).kont (.exit 0) ⟨fat [0, 7, 15, 16, 17] vs (x17 n i) 29 0, H17 L es att tmo n f⟩

theorem t17k_eq (L : LSt) (es : List Pkt) (att tmo : Int) (n : Nat) (f : Nat → Pkt) (i : Int) (vs : Nat → Value) : t17k L es att tmo n f i vs =
    T.ret
      (AV.e (EV.s (SV.sl 4 4 0 n 0)),
        [AB.cells 86
            [SV.d (Value.int IntKind.i64 L.room), SV.d (Value.int IntKind.u64 L.first), SV.d (Value.int IntKind.u64 L.next),
              SV.d (Value.int IntKind.i64 L.last), SV.mp 1],
          AB.pm es, AB.cells 3 [SV.d (Value.int IntKind.i64 att)], AB.cells 3 [SV.d (Value.int IntKind.i64 tmo)],
          AB.row 36 4 n (pkF f)]) := by kernel_rfl


noncomputable def t19c (L : LSt) (n : Nat) (f : Nat → Pkt) : T (AV × Heap) := ((t19 L).go []).kontC (.e (.s (.sl 2 4 0 n 0))) [.cells 86 (lc L 1), .pm L.es, .row 36 4 n (pkF f)]

theorem t19c_eq (L : LSt) (n : Nat) (f : Nat → Pkt) : t19c L n f =
    T.ret
      (AV.e (EV.s (SV.sl 2 4 0 n 0)),
        [AB.cells 86
            [SV.d (Value.int IntKind.i64 L.room), SV.d (Value.int IntKind.u64 L.first), SV.d (Value.int IntKind.u64 L.next),
              SV.d (Value.int IntKind.i64 L.last), SV.mp 1],
          AB.pm L.es, AB.row 36 4 n (pkF f)]) := by kernel_rfl


theorem kl15 : codeB oN (loopAt Try.prog 15 0) = true := by kernel_rfl
theorem kl18 : codeB oN (loopAt Try.prog 18 0) = true := by kernel_rfl
theorem kl17 : codeB o17 (loopAt Try.prog 17 0) = true := by kernel_rfl

end Go.Proofs.Ythckkoledhjmeaa.Ev
