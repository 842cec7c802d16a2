/-
  The abstract evaluator's trees: slices.Clone at accounts.
-/
import Derived.Test.YthckkoledhjmeaaBH
namespace Go.Proofs.Ythckkoledhjmeaa.Ev
open Go

noncomputable def r49 (p : List Bool) : Code := sub p (bodyOf Try.prog 49)
noncomputable def opsB49 : Array Oper := opsOf (r49 [false, true, true])
noncomputable def mv49 : Oper := opsB49.toList.getD 0 noOp
noncomputable def eq49 : Oper := opsB49.toList.getD 1 noOp
noncomputable def c49 : Code := match r49 [false, true, false] with | .cond _ x _ => x | c => c

theorem body49 : bodyOf Try.prog 49 = .seq (r49 [true]) (.seq (.seq (.region 1 opsB49 false) (.cond (.tmp 4) c49 .skip)) (r49 [false, false])) := by kernel_rfl
theorem opsB49_list : opsB49.toList = [mv49] ++ [eq49] := by kernel_rfl
theorem eq49_op : eq49.op = .binOp .eql 58 (.tmp 3) (.const (.slice none 0 0)) 58 := by kernel_rfl
theorem eq49_dst : eq49.dst = some 4 := by kernel_rfl
theorem eq49_guard : eq49.guard = none := by kernel_rfl
theorem und58 : Try.prog.underlying 58 = some (.slice 80) := by kernel_rfl

def eZ : List (Nat × Ent) := []
def fr49 (i n z : Nat) : List AV := [.e (.s (.sl 0 15 i n z))] ++ List.replicate 7 undefA
def frE (i n z : Nat) (b : Bool) : List AV := [.e (.s (.sl 0 15 i n z)), undefA, .c (.slice none 0 0), .e (.s (.sl 0 15 i n z)), .c (.bool b), undefA, undefA, undefA]

noncomputable def pre49 (σ : St) : T (List AV × Heap) :=
  codeT Try.prog (callT Try.prog (entL eZ) 0) oN 1 0 (r49 [true]) σ fun e σ => match e with
    | .normal => regT Try.prog (callT Try.prog (entL eZ) 0) opsB49 [mv49] σ (fun σ => .ret (σ.fr, σ.H))
    | _ => .fail

noncomputable def end49 (c : Code) (σ : St) : T (AV × Heap) :=
  codeT Try.prog (callT Try.prog (entL eZ) 0) oN 1 0 c σ fun e σ => match e with
    | .ret => retT Try.prog Try.f49 1 σ fun r H => .ret (r, H)
    | _ => .fail

noncomputable def t49p (i n z N : Nat) (g : Nat → List Value) : T (List AV × Heap) := pre49 ⟨fr49 i n z, [.row 80 15 N g]⟩

theorem t49p_eq (i n z N : Nat) (g : Nat → List Value) : t49p i n z N g =
 T.ret
 ([AV.e (EV.s (SV.sl 0 15 i n z)), AV.tup [], AV.e (EV.s (SV.c (Value.slice none 0 0))),
 AV.e (EV.s (SV.sl 0 15 i n z)), AV.tup [], AV.tup [], AV.tup [], AV.tup []],
 [AB.row 80 15 N g]) := by kernel_rfl


noncomputable def t49c (i n z N : Nat) (g : Nat → List Value) : T (AV × Heap) := end49 c49 ⟨frE i n z true, [.row 80 15 N g]⟩

theorem t49c_eq (i n z N : Nat) (g : Nat → List Value) : t49c i n z N g =
 T.ret (AV.e (EV.s (SV.c (Value.slice none 0 0))), [AB.row 80 15 N g]) := by kernel_rfl


noncomputable def t49d (i n z N : Nat) (g : Nat → List Value) : T (AV × Heap) := end49 (r49 [false, false]) ⟨frE i n z false, [.row 80 15 N g]⟩

theorem t49d_eq (i n z N : Nat) (g : Nat → List Value) : t49d i n z N g =
 T.need (0 ≤ (chunksOf 15 0 []).length ∧ i + n ≤ N ∧ 0 + n ≤ most)
 (T.ret
 (AV.e (EV.s (SV.sl 2 15 0 (0 + n) 0)),
 [AB.row 80 15 N g, AB.dead, AB.row 80 15 (0 + n) (appendG (fun j => (chunksOf 15 0 []).getD j []) 0 0 g i)])) := by kernel_rfl


theorem kc49a : codeB oN (r49 [true]) = true := by kernel_rfl
theorem kc49c : codeB oN c49 = true := by kernel_rfl
theorem kc49d : codeB oN (r49 [false, false]) = true := by kernel_rfl

end Go.Proofs.Ythckkoledhjmeaa.Ev
