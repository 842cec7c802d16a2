/-
  A ledger begins: the program's and the document's; the abstract evaluator's trees of the document's rows.
-/
import Derived.Test.YthckkoledhjmeaaXH
namespace Go.Proofs.Ythckkoledhjmeaa.Ev
open Go

def e10 : List (Nat × Ent) := [(10, .body oN 0)]
def e11 : List (Nat × Ent) := [(11, .body oN 0)]

noncomputable def t10 (room first : Int) : T (AV × Heap) := callT Try.prog (entL e10) 1 10 [.d (.int .i64 room), .d (.int .u64 first)] [] fun r H' => .ret (r, H')

theorem t10_eq (room first : Int) : t10 room first =
    T.ite (decide (room < 1)) (T.ret (AV.tup [EV.s (SV.c (Value.pointer none)), EV.s (SV.c (Value.int IntKind.i64 1))], []))
      (T.ite (decide (room > 4096))
        (T.ret (AV.tup [EV.s (SV.c (Value.pointer none)), EV.s (SV.c (Value.int IntKind.i64 1))], []))
        (T.ret
          (AV.tup [EV.s (SV.ptr 1 0), EV.s (SV.c (Value.int IntKind.i64 0))],
            [AB.pm [],
              AB.cells 86
                [SV.d (Value.int IntKind.i64 room), SV.d (Value.int IntKind.u64 first), SV.d (Value.int IntKind.u64 first),
                  SV.c (Value.int IntKind.i64 0), SV.mp 0]]))) := by kernel_rfl


noncomputable def t11 (room first : Int) : T (AV × Heap) := callT Try.prog (entL e11) 1 11 [.d (.int .i64 room), .d (.int .u64 first)] [] fun r H' => .ret (r, H')

theorem t11_eq (room first : Int) : t11 room first =
    T.ite (decide (room < 1)) (T.ret (AV.tup [EV.s (SV.c (Value.pointer none)), EV.s (SV.c (Value.int IntKind.i64 1))], []))
      (T.ite (decide (room > 4096))
        (T.ret (AV.tup [EV.s (SV.c (Value.pointer none)), EV.s (SV.c (Value.int IntKind.i64 1))], []))
        (T.ret
          (AV.tup [EV.s (SV.ptr 0 0), EV.s (SV.c (Value.int IntKind.i64 0))],
            [AB.cells 44
                [SV.d (Value.int IntKind.i64 room), SV.d (Value.int IntKind.u64 first), SV.d (Value.int IntKind.u64 first),
                  SV.c (Value.int IntKind.i64 0), SV.c (Value.slice none 0 0)]]))) := by kernel_rfl


end Go.Proofs.Ythckkoledhjmeaa.Ev
