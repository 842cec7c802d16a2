/-
  The abstract evaluator's trees: rows of packets are compared.
-/
import Derived.Test.YthckkoledhjmeaaEvU
namespace Go.Proofs.Ythckkoledhjmeaa.Ev
open Go

def e16 : List (Nat × Ent) := [(16, .body o16 0)]

noncomputable def t16 (fa fb : Nat → Pkt) (na nb ia n za ib m zb : Nat) : T (AV × Heap) := callT Try.prog (entL e16) 1 16 [.e (.s (.sl 0 4 ia n za)), .e (.s (.sl 1 4 ib m zb))] [.ro 4 na (pkF fa), .ro 4 nb (pkF fb)] fun r H' => .ret (r, H')

theorem t16_eq (fa fb : Nat → Pkt) (na nb ia n za ib m zb : Nat) : t16 fa fb na nb ia n za ib m zb =
    T.ite ((↑n : Int) != (↑m : Int))
      (T.ret (AV.e (EV.s (SV.c (Value.bool false))), [AB.ro 4 na (pkF fa), AB.ro 4 nb (pkF fb)]))
      (T.code 2 (loopAt Try.prog 16 0).loop
        {
          fr :=
            [AV.e (EV.s (SV.sl 0 4 ia n za)), AV.e (EV.s (SV.sl 1 4 ib m zb)), AV.tup [], AV.tup [],
              AV.e (EV.s (SV.c (Value.bool false))), AV.e (EV.s (SV.c (Value.int IntKind.i64 0))),
              AV.e (EV.s (SV.sl 0 4 ia n za)), AV.e (EV.s (SV.d (Value.int IntKind.i64 (↑n : Int)))),
              AV.e (EV.s (SV.sl 1 4 ib m zb)), AV.e (EV.s (SV.d (Value.int IntKind.i64 (↑m : Int)))),
              AV.e (EV.s (SV.c (Value.bool false))), AV.tup [], AV.tup [], AV.tup [], AV.tup [], AV.tup [], AV.tup [],
              AV.tup [], AV.tup [], AV.tup [], AV.tup [], AV.tup [], AV.tup [], AV.tup [], AV.tup [], AV.tup []],
          H := [AB.ro 4 na (pkF fa), AB.ro 4 nb (pkF fb)] }
        (T.go [false] (t16 fa fb na nb ia n za ib m zb)).kont) := by kernel_rfl


noncomputable def t16b (fa fb : Nat → Pkt) (na nb ia n za ib m zb : Nat) (i : Int) (vs : Nat → Value) : T (Exit × List AV × Heap) := bodyT Try.prog e16 0 o16 2 (loopAt Try.prog 16 0) [0, 1, 4, 5] 26 [.e (.s (.sl 0 4 ia n za)), .e (.s (.sl 1 4 ib m zb)), .d (.bool false), .d (.int .i64 i)] [.ro 4 na (pkF fa), .ro 4 nb (pkF fb)] vs

theorem t16b_eq (fa fb : Nat → Pkt) (na nb ia n za ib m zb : Nat) (i : Int) (vs : Nat → Value) : t16b fa fb na nb ia n za ib m zb i vs =
    T.ite (decide (i < (↑n : Int)))
      (T.need (0 ≤ i ∧ i < (↑n : Int))
        (T.need (ia + i.toNat < na)
          (T.need (0 ≤ i ∧ i < (↑m : Int))
            (T.need (ib + i.toNat < nb)
              (T.ite
                (if true = true then
                  !(fun r => (fa (ia + i.toNat)).seq == (fb (ib + i.toNat)).seq && r)
                      ((fun r => (fa (ia + i.toNat)).mi == (fb (ib + i.toNat)).mi && r)
                        ((fun r => (fa (ia + i.toNat)).size == (fb (ib + i.toNat)).size && r)
                          ((fun r => (fa (ia + i.toNat)).sent == (fb (ib + i.toNat)).sent && r) true)))
                else
                  (fun r => (fa (ia + i.toNat)).seq == (fb (ib + i.toNat)).seq && r)
                    ((fun r => (fa (ia + i.toNat)).mi == (fb (ib + i.toNat)).mi && r)
                      ((fun r => (fa (ia + i.toNat)).size == (fb (ib + i.toNat)).size && r)
                        ((fun r => (fa (ia + i.toNat)).sent == (fb (ib + i.toNat)).sent && r) true))))
                (T.ret
                  (Exit.ret,
                    [AV.e (EV.s (SV.sl 0 4 ia n za)), AV.e (EV.s (SV.sl 1 4 ib m zb)),
                      AV.e (EV.s (SV.c (Value.bool false))), AV.e (EV.s (SV.d (Value.int IntKind.i64 i)))],
                    [AB.ro 4 na (pkF fa), AB.ro 4 nb (pkF fb)]))
                (T.ret
                  (Exit.normal,
                    [AV.e (EV.s (SV.sl 0 4 ia n za)), AV.e (EV.s (SV.sl 1 4 ib m zb)),
                      AV.e (EV.s (SV.d (Value.bool false))),
                      AV.e (EV.s (SV.d (Value.int IntKind.i64 (IntKind.i64.wrap (i + 1)))))],
                    [AB.ro 4 na (pkF fa), AB.ro 4 nb (pkF fb)])))))))
      (T.ret
        (Exit.exit 0,
          [AV.e (EV.s (SV.sl 0 4 ia n za)), AV.e (EV.s (SV.sl 1 4 ib m zb)), AV.e (EV.s (SV.d (Value.bool false))),
            AV.e (EV.s (SV.d (Value.int IntKind.i64 i)))],
          [AB.ro 4 na (pkF fa), AB.ro 4 nb (pkF fb)])) := by kernel_rfl


noncomputable def t16k (fa fb : Nat → Pkt) (na nb ia n za ib m zb : Nat) (i : Value) (b : Bool) (vs : Nat → Value) : T (AV × Heap) := ((t16 fa fb na nb ia n za ib m zb).go [false]).kont (.exit 0) ⟨fat [0, 1, 4, 5] vs [.e (.s (.sl 0 4 ia n za)), .e (.s (.sl 1 4 ib m zb)), .d (.bool b), .d i] 26 0, [.ro 4 na (pkF fa), .ro 4 nb (pkF fb)]⟩

theorem t16k_eq (fa fb : Nat → Pkt) (na nb ia n za ib m zb : Nat) (i : Value) (b : Bool) (vs : Nat → Value) : t16k fa fb na nb ia n za ib m zb i b vs =
    T.ret (AV.e (EV.s (SV.c (Value.bool true))), [AB.ro 4 na (pkF fa), AB.ro 4 nb (pkF fb)]) := by kernel_rfl


noncomputable def t16r (fa fb : Nat → Pkt) (na nb ia n za ib m zb : Nat) (i : Value) (b : Value) (vs : Nat → Value) : T (AV × Heap) := ((t16 fa fb na nb ia n za ib m zb).go [false]).kont .ret ⟨fat [0, 1, 4, 5] vs [.e (.s (.sl 0 4 ia n za)), .e (.s (.sl 1 4 ib m zb)), .c b, .d i] 26 0, [.ro 4 na (pkF fa), .ro 4 nb (pkF fb)]⟩

theorem t16r_eq (fa fb : Nat → Pkt) (na nb ia n za ib m zb : Nat) (i : Value) (b : Value) (vs : Nat → Value) : t16r fa fb na nb ia n za ib m zb i b vs =
    T.ret (AV.e (EV.s (SV.c b)), [AB.ro 4 na (pkF fa), AB.ro 4 nb (pkF fb)]) := by kernel_rfl


theorem kl16 : codeB o16 (loopAt Try.prog 16 0) = true := by kernel_rfl

end Go.Proofs.Ythckkoledhjmeaa.Ev
