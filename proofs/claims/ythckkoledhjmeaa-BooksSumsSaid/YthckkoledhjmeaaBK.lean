/-
  The abstract evaluator's trees: rows of accounts are compared.
-/
import Derived.Test.YthckkoledhjmeaaBJ
namespace Go.Proofs.Ythckkoledhjmeaa.Ev
open Go

def miF (f : Nat → Mi) : Nat → List Value := fun j => (f j).vals
def miG (ms : List Mi) : Nat → List Value := fun j => (ms.getD j Mi.zero).vals

def e27 : List (Nat × Ent) := [(27, .body o27 0)]

noncomputable def t27 (fa fb : Nat → Mi) (na nb n za m zb : Nat) : T (AV × Heap) := callT Try.prog (entL e27) 1 27 [.e (.s (.sl 0 15 0 n za)), .e (.s (.sl 1 15 0 m zb))] [.ro 15 na (miF fa), .ro 15 nb (miF fb)] fun r H' => .ret (r, H')

theorem t27_eq (fa fb : Nat → Mi) (na nb n za m zb : Nat) : t27 fa fb na nb n za m zb =
 T.ite ((↑n : Int) != (↑m : Int))
 (T.ret (AV.e (EV.s (SV.c (Value.bool false))), [AB.ro 15 na (miF fa), AB.ro 15 nb (miF fb)]))
 (T.code 2 (loopAt Try.prog 27 0).loop
 { fr := [AV.e (EV.s (SV.sl 0 15 0 n za)), AV.e (EV.s (SV.sl 1 15 0 m zb)), AV.tup [], AV.tup [], AV.e (EV.s (SV.c (Value.bool false))), AV.e (EV.s (SV.c (Value.int IntKind.i64 0))), AV.e (EV.s (SV.sl 0 15 0 n za)), AV.e (EV.s (SV.d (Value.int IntKind.i64 (↑n : Int)))), AV.e (EV.s (SV.sl 1 15 0 m zb)), AV.e (EV.s (SV.d (Value.int IntKind.i64 (↑m : Int)))), AV.e (EV.s (SV.c (Value.bool false))), AV.tup [], AV.tup [], AV.tup [], AV.tup [], AV.tup [], AV.tup [], AV.tup [], AV.tup [], AV.tup [], AV.tup [], AV.tup [], AV.tup [], AV.tup [], AV.tup [], AV.tup []], H := [AB.ro 15 na (miF fa), AB.ro 15 nb (miF fb)] : St }
 (T.go [false] (t27 fa fb na nb n za m zb)).kont) := by kernel_rfl


noncomputable def t27b (fa fb : Nat → Mi) (na nb n za m zb : Nat) (i : Int) (vs : Nat → Value) : T (Exit × List AV × Heap) := bodyT Try.prog e27 0 o27 2 (loopAt Try.prog 27 0) [0, 1, 4, 5] 26 [.e (.s (.sl 0 15 0 n za)), .e (.s (.sl 1 15 0 m zb)), .d (.bool false), .d (.int .i64 i)] [.ro 15 na (miF fa), .ro 15 nb (miF fb)] vs

theorem t27b_eq (fa fb : Nat → Mi) (na nb n za m zb : Nat) (i : Int) (vs : Nat → Value) : t27b fa fb na nb n za m zb i vs =
 T.ite (decide (i < (↑n : Int)))
 (T.need (0 ≤ i ∧ i < (↑n : Int))
 (T.need (0 + i.toNat < na)
 (T.need (0 ≤ i ∧ i < (↑m : Int))
 (T.need (0 + i.toNat < nb)
 (T.ite
 (if true = true then
 !((fa (0 + i.toNat)).id == (fb (0 + i.toNat)).id &&
 ((fa (0 + i.toNat)).frm == (fb (0 + i.toNat)).frm &&
 ((fa (0 + i.toNat)).to == (fb (0 + i.toNat)).to &&
 ((fa (0 + i.toNat)).sent == (fb (0 + i.toNat)).sent &&
 ((fa (0 + i.toNat)).acked == (fb (0 + i.toNat)).acked &&
 ((fa (0 + i.toNat)).lost == (fb (0 + i.toNat)).lost &&
 ((fa (0 + i.toNat)).packets == (fb (0 + i.toNat)).packets &&
 ((fa (0 + i.toNat)).hits == (fb (0 + i.toNat)).hits &&
 ((fa (0 + i.toNat)).drops == (fb (0 + i.toNat)).drops &&
 ((fa (0 + i.toNat)).n == (fb (0 + i.toNat)).n &&
 ((fa (0 + i.toNat)).sumT == (fb (0 + i.toNat)).sumT &&
 ((fa (0 + i.toNat)).sumR == (fb (0 + i.toNat)).sumR &&
 ((fa (0 + i.toNat)).sumTT == (fb (0 + i.toNat)).sumTT &&
 ((fa (0 + i.toNat)).sumTR == (fb (0 + i.toNat)).sumTR &&
 ((fa (0 + i.toNat)).sumRR == (fb (0 + i.toNat)).sumRR && true)))))))))))))))
 else
 (fa (0 + i.toNat)).id == (fb (0 + i.toNat)).id &&
 ((fa (0 + i.toNat)).frm == (fb (0 + i.toNat)).frm &&
 ((fa (0 + i.toNat)).to == (fb (0 + i.toNat)).to &&
 ((fa (0 + i.toNat)).sent == (fb (0 + i.toNat)).sent &&
 ((fa (0 + i.toNat)).acked == (fb (0 + i.toNat)).acked &&
 ((fa (0 + i.toNat)).lost == (fb (0 + i.toNat)).lost &&
 ((fa (0 + i.toNat)).packets == (fb (0 + i.toNat)).packets &&
 ((fa (0 + i.toNat)).hits == (fb (0 + i.toNat)).hits &&
 ((fa (0 + i.toNat)).drops == (fb (0 + i.toNat)).drops &&
 ((fa (0 + i.toNat)).n == (fb (0 + i.toNat)).n &&
 ((fa (0 + i.toNat)).sumT == (fb (0 + i.toNat)).sumT &&
 ((fa (0 + i.toNat)).sumR == (fb (0 + i.toNat)).sumR &&
 ((fa (0 + i.toNat)).sumTT == (fb (0 + i.toNat)).sumTT &&
 ((fa (0 + i.toNat)).sumTR == (fb (0 + i.toNat)).sumTR &&
 ((fa (0 + i.toNat)).sumRR == (fb (0 + i.toNat)).sumRR && true)))))))))))))))
 (T.ret
 (Exit.ret,
 [AV.e (EV.s (SV.sl 0 15 0 n za)), AV.e (EV.s (SV.sl 1 15 0 m zb)),
 AV.e (EV.s (SV.c (Value.bool false))), AV.e (EV.s (SV.d (Value.int IntKind.i64 i)))],
 [AB.ro 15 na (miF fa), AB.ro 15 nb (miF fb)]))
 (T.ret
 (Exit.normal,
 [AV.e (EV.s (SV.sl 0 15 0 n za)), AV.e (EV.s (SV.sl 1 15 0 m zb)),
 AV.e (EV.s (SV.d (Value.bool false))),
 AV.e (EV.s (SV.d (Value.int IntKind.i64 (IntKind.i64.wrap (i + 1)))))],
 [AB.ro 15 na (miF fa), AB.ro 15 nb (miF fb)])))))))
 (T.ret
 (Exit.exit 0,
 [AV.e (EV.s (SV.sl 0 15 0 n za)), AV.e (EV.s (SV.sl 1 15 0 m zb)), AV.e (EV.s (SV.d (Value.bool false))),
 AV.e (EV.s (SV.d (Value.int IntKind.i64 i)))],
 [AB.ro 15 na (miF fa), AB.ro 15 nb (miF fb)])) := by kernel_rfl


noncomputable def t27k (fa fb : Nat → Mi) (na nb n za m zb : Nat) (i : Value) (b : Bool) (vs : Nat → Value) : T (AV × Heap) := ((t27 fa fb na nb n za m zb).go [false]).kont (.exit 0) ⟨fat [0, 1, 4, 5] vs [.e (.s (.sl 0 15 0 n za)), .e (.s (.sl 1 15 0 m zb)), .d (.bool b), .d i] 26 0, [.ro 15 na (miF fa), .ro 15 nb (miF fb)]⟩

theorem t27k_eq (fa fb : Nat → Mi) (na nb n za m zb : Nat) (i : Value) (b : Bool) (vs : Nat → Value) : t27k fa fb na nb n za m zb i b vs =
 T.ret (AV.e (EV.s (SV.c (Value.bool true))), [AB.ro 15 na (miF fa), AB.ro 15 nb (miF fb)]) := by kernel_rfl


noncomputable def t27r (fa fb : Nat → Mi) (na nb n za m zb : Nat) (i : Value) (b : Value) (vs : Nat → Value) : T (AV × Heap) := ((t27 fa fb na nb n za m zb).go [false]).kont .ret ⟨fat [0, 1, 4, 5] vs [.e (.s (.sl 0 15 0 n za)), .e (.s (.sl 1 15 0 m zb)), .c b, .d i] 26 0, [.ro 15 na (miF fa), .ro 15 nb (miF fb)]⟩

theorem t27r_eq (fa fb : Nat → Mi) (na nb n za m zb : Nat) (i : Value) (b : Value) (vs : Nat → Value) : t27r fa fb na nb n za m zb i b vs =
 T.ret (AV.e (EV.s (SV.c b)), [AB.ro 15 na (miF fa), AB.ro 15 nb (miF fb)]) := by kernel_rfl


theorem kl27 : codeB o27 (loopAt Try.prog 27 0) = true := by kernel_rfl

end Go.Proofs.Ythckkoledhjmeaa.Ev
