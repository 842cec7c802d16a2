/-
  The abstract evaluator's trees: rows of accounts are compared, the second one from a place on.
-/
import Derived.Test.YthckkoledhjmeaaBL
namespace Go.Proofs.Ythckkoledhjmeaa.Ev
open Go

noncomputable def u27 (fa fb : Nat → Mi) (na nb n za ib m zb : Nat) : T (AV × Heap) := callT Try.prog (entL e27) 1 27 [.e (.s (.sl 0 15 0 n za)), .e (.s (.sl 1 15 ib m zb))] [.ro 15 na (miF fa), .ro 15 nb (miF fb)] fun r H' => .ret (r, H')

theorem u27_eq (fa fb : Nat → Mi) (na nb n za ib m zb : Nat) : u27 fa fb na nb n za ib m zb =
    T.ite ((↑n : Int) != (↑m : Int))
 (T.ret (AV.e (EV.s (SV.c (Value.bool false))), [AB.ro 15 na (miF fa), AB.ro 15 nb (miF fb)]))
 (T.code 2 (loopAt Try.prog 27 0).loop
 { fr := [AV.e (EV.s (SV.sl 0 15 0 n za)), AV.e (EV.s (SV.sl 1 15 ib m zb)), AV.tup [], AV.tup [], AV.e (EV.s (SV.c (Value.bool false))), AV.e (EV.s (SV.c (Value.int IntKind.i64 0))), AV.e (EV.s (SV.sl 0 15 0 n za)), AV.e (EV.s (SV.d (Value.int IntKind.i64 (↑n : Int)))), AV.e (EV.s (SV.sl 1 15 ib m zb)), AV.e (EV.s (SV.d (Value.int IntKind.i64 (↑m : Int)))), AV.e (EV.s (SV.c (Value.bool false))), AV.tup [], AV.tup [], AV.tup [], AV.tup [], AV.tup [], AV.tup [], AV.tup [], AV.tup [], AV.tup [], AV.tup [], AV.tup [], AV.tup [], AV.tup [], AV.tup [], AV.tup []], H := [AB.ro 15 na (miF fa), AB.ro 15 nb (miF fb)] : St }
 (T.go [false] (u27 fa fb na nb n za ib m zb)).kont) := by kernel_rfl


noncomputable def u27b (fa fb : Nat → Mi) (na nb n za ib m zb : Nat) (i : Int) (vs : Nat → Value) : T (Exit × List AV × Heap) := bodyT Try.prog e27 0 o27 2 (loopAt Try.prog 27 0) [0, 1, 4, 5] 26 [.e (.s (.sl 0 15 0 n za)), .e (.s (.sl 1 15 ib m zb)), .d (.bool false), .d (.int .i64 i)] [.ro 15 na (miF fa), .ro 15 nb (miF fb)] vs

theorem u27b_eq (fa fb : Nat → Mi) (na nb n za ib m zb : Nat) (i : Int) (vs : Nat → Value) : u27b fa fb na nb n za ib m zb i vs =
    T.ite (decide (i < (↑n : Int)))
 (T.need (0 ≤ i ∧ i < (↑n : Int))
 (T.need (0 + i.toNat < na)
 (T.need (0 ≤ i ∧ i < (↑m : Int))
 (T.need (ib + i.toNat < nb)
 (T.ite
 (if true = true then
 !((fa (0 + i.toNat)).id == (fb (ib + i.toNat)).id &&
 ((fa (0 + i.toNat)).frm == (fb (ib + i.toNat)).frm &&
 ((fa (0 + i.toNat)).to == (fb (ib + i.toNat)).to &&
 ((fa (0 + i.toNat)).sent == (fb (ib + i.toNat)).sent &&
 ((fa (0 + i.toNat)).acked == (fb (ib + i.toNat)).acked &&
 ((fa (0 + i.toNat)).lost == (fb (ib + i.toNat)).lost &&
 ((fa (0 + i.toNat)).packets == (fb (ib + i.toNat)).packets &&
 ((fa (0 + i.toNat)).hits == (fb (ib + i.toNat)).hits &&
 ((fa (0 + i.toNat)).drops == (fb (ib + i.toNat)).drops &&
 ((fa (0 + i.toNat)).n == (fb (ib + i.toNat)).n &&
 ((fa (0 + i.toNat)).sumT == (fb (ib + i.toNat)).sumT &&
 ((fa (0 + i.toNat)).sumR == (fb (ib + i.toNat)).sumR &&
 ((fa (0 + i.toNat)).sumTT == (fb (ib + i.toNat)).sumTT &&
 ((fa (0 + i.toNat)).sumTR == (fb (ib + i.toNat)).sumTR &&
 ((fa (0 + i.toNat)).sumRR == (fb (ib + i.toNat)).sumRR &&
 true)))))))))))))))
 else
 (fa (0 + i.toNat)).id == (fb (ib + i.toNat)).id &&
 ((fa (0 + i.toNat)).frm == (fb (ib + i.toNat)).frm &&
 ((fa (0 + i.toNat)).to == (fb (ib + i.toNat)).to &&
 ((fa (0 + i.toNat)).sent == (fb (ib + i.toNat)).sent &&
 ((fa (0 + i.toNat)).acked == (fb (ib + i.toNat)).acked &&
 ((fa (0 + i.toNat)).lost == (fb (ib + i.toNat)).lost &&
 ((fa (0 + i.toNat)).packets == (fb (ib + i.toNat)).packets &&
 ((fa (0 + i.toNat)).hits == (fb (ib + i.toNat)).hits &&
 ((fa (0 + i.toNat)).drops == (fb (ib + i.toNat)).drops &&
 ((fa (0 + i.toNat)).n == (fb (ib + i.toNat)).n &&
 ((fa (0 + i.toNat)).sumT == (fb (ib + i.toNat)).sumT &&
 ((fa (0 + i.toNat)).sumR == (fb (ib + i.toNat)).sumR &&
 ((fa (0 + i.toNat)).sumTT == (fb (ib + i.toNat)).sumTT &&
 ((fa (0 + i.toNat)).sumTR == (fb (ib + i.toNat)).sumTR &&
 ((fa (0 + i.toNat)).sumRR == (fb (ib + i.toNat)).sumRR && true)))))))))))))))
 (T.ret
 (Exit.ret,
 [AV.e (EV.s (SV.sl 0 15 0 n za)), AV.e (EV.s (SV.sl 1 15 ib m zb)),
 AV.e (EV.s (SV.c (Value.bool false))), AV.e (EV.s (SV.d (Value.int IntKind.i64 i)))],
 [AB.ro 15 na (miF fa), AB.ro 15 nb (miF fb)]))
 (T.ret
 (Exit.normal,
 [AV.e (EV.s (SV.sl 0 15 0 n za)), AV.e (EV.s (SV.sl 1 15 ib m zb)),
 AV.e (EV.s (SV.d (Value.bool false))),
 AV.e (EV.s (SV.d (Value.int IntKind.i64 (IntKind.i64.wrap (i + 1)))))],
 [AB.ro 15 na (miF fa), AB.ro 15 nb (miF fb)])))))))
 (T.ret
 (Exit.exit 0,
 [AV.e (EV.s (SV.sl 0 15 0 n za)), AV.e (EV.s (SV.sl 1 15 ib m zb)), AV.e (EV.s (SV.d (Value.bool false))),
 AV.e (EV.s (SV.d (Value.int IntKind.i64 i)))],
 [AB.ro 15 na (miF fa), AB.ro 15 nb (miF fb)])) := by kernel_rfl


noncomputable def u27k (fa fb : Nat → Mi) (na nb n za ib m zb : Nat) (i : Value) (b : Bool) (vs : Nat → Value) : T (AV × Heap) := ((u27 fa fb na nb n za ib m zb).go [false]).kont (.exit 0) ⟨fat [0, 1, 4, 5] vs [.e (.s (.sl 0 15 0 n za)), .e (.s (.sl 1 15 ib m zb)), .d (.bool b), .d i] 26 0, [.ro 15 na (miF fa), .ro 15 nb (miF fb)]⟩

theorem u27k_eq (fa fb : Nat → Mi) (na nb n za ib m zb : Nat) (i : Value) (b : Bool) (vs : Nat → Value) : u27k fa fb na nb n za ib m zb i b vs =
    T.ret (AV.e (EV.s (SV.c (Value.bool true))), [AB.ro 15 na (miF fa), AB.ro 15 nb (miF fb)]) := by kernel_rfl


noncomputable def u27r (fa fb : Nat → Mi) (na nb n za ib m zb : Nat) (i : Value) (b : Value) (vs : Nat → Value) : T (AV × Heap) := ((u27 fa fb na nb n za ib m zb).go [false]).kont .ret ⟨fat [0, 1, 4, 5] vs [.e (.s (.sl 0 15 0 n za)), .e (.s (.sl 1 15 ib m zb)), .c b, .d i] 26 0, [.ro 15 na (miF fa), .ro 15 nb (miF fb)]⟩

theorem u27r_eq (fa fb : Nat → Mi) (na nb n za ib m zb : Nat) (i : Value) (b : Value) (vs : Nat → Value) : u27r fa fb na nb n za ib m zb i b vs =
    T.ret (AV.e (EV.s (SV.c b)), [AB.ro 15 na (miF fa), AB.ro 15 nb (miF fb)]) := by kernel_rfl


end Go.Proofs.Ythckkoledhjmeaa.Ev
