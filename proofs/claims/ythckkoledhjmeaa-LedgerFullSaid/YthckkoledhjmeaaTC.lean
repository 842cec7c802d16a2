/-
  The abstract evaluator's trees: what stands ahead of, and behind, ledger.some's loop.
-/
import Derived.Test.YthckkoledhjmeaaVF
namespace Go.Proofs.Ythckkoledhjmeaa.Ev
open Go

noncomputable def ops2 : Array Oper := opsOf (r41 [false, false, true, true])
noncomputable def pre4 : List Oper := ops2.toList.take 4
noncomputable def rg : Oper := ops2.toList.getD 4 noOp

theorem ops2_list : ops2.toList = pre4 ++ [rg] := by kernel_rfl
theorem rg_op : rg.op = .range 84 (.tmp 11) := by kernel_rfl
theorem rg_dst : rg.dst = some 12 := by kernel_rfl
theorem rg_guard : rg.guard = none := by kernel_rfl

def endR (live : List Nat) (N : Nat) (σ : St) : T (List AV × Heap) :=
  match Nat.beq σ.fr.length N with
  | true => .ret (slim live σ.fr, σ.H)
  | false => .fail

/-- What stands ahead of 'range'. -/
noncomputable def pre41 (n0 : Nat) (σ : St) : T (List AV × Heap) :=
  codeT Try.prog (callT Try.prog (entL eS) 1) oN n0 0 (r41 [true]) σ fun e σ => match e with
    | .normal => codeT Try.prog (callT Try.prog (entL eS) 1) oN n0 0 (r41 [false, true]) σ fun e σ => match e with
      | .normal => regT Try.prog (callT Try.prog (entL eS) 1) ops2 pre4 σ (endR [1, 5, 11] 27)
      | _ => .fail
    | _ => .fail

def fr0 (f : SV) : List AV := [.e (.s (.ptr 0 0)), .e (.s f)] ++ List.replicate 25 undefA

noncomputable def tP2 (L : LSt) (f : SV) : T (List AV × Heap) := pre41 2 ⟨fr0 f, [.cells 86 (lc L 1), .pm L.es]⟩

theorem tP2_eq (L : LSt) (f : SV) : tP2 L f =
    T.ret
      ([AV.e (EV.s f), AV.e (EV.s (SV.c (Value.slice none 0 0))), AV.e (EV.s (SV.mp 1))],
        [AB.cells 86
            [SV.d (Value.int IntKind.i64 L.room), SV.d (Value.int IntKind.u64 L.first), SV.d (Value.int IntKind.u64 L.next),
              SV.d (Value.int IntKind.i64 L.last), SV.mp 1],
          AB.pm L.es]) := by kernel_rfl


noncomputable def tP4 (L : LSt) (att tmo : Int) (f : SV) : T (List AV × Heap) := pre41 4 ⟨fr0 f, [.cells 86 (lc L 1), .pm L.es, .cells 3 [.d (.int .i64 att)], .cells 3 [.d (.int .i64 tmo)]]⟩

theorem tP4_eq (L : LSt) (att tmo : Int) (f : SV) : tP4 L att tmo f =
    T.ret
      ([AV.e (EV.s f), AV.e (EV.s (SV.c (Value.slice none 0 0))), AV.e (EV.s (SV.mp 1))],
        [AB.cells 86
            [SV.d (Value.int IntKind.i64 L.room), SV.d (Value.int IntKind.u64 L.first), SV.d (Value.int IntKind.u64 L.next),
              SV.d (Value.int IntKind.i64 L.last), SV.mp 1],
          AB.pm L.es, AB.cells 3 [SV.d (Value.int IntKind.i64 att)], AB.cells 3 [SV.d (Value.int IntKind.i64 tmo)]]) := by kernel_rfl


/-- What stands behind the loop. -/
noncomputable def post41 (n0 : Nat) (σ : St) : T (AV × Heap) :=
  codeT Try.prog (callT Try.prog (entL eS) 1) oN n0 0 (r41 [false, false, false]) σ fun e σ => match e with
    | .ret => retT Try.prog Try.f41 n0 σ fun r H => .ret (r, H)
    | _ => .fail

noncomputable def tQ2 (L : LSt) (f it : SV) (vs : Nat → Value) (n : Nat) (g : Nat → List Value) : T (AV × Heap) := post41 2 ⟨fat [1, 5, 12] vs [.e (.s f), .e (.s (.sl 2 4 0 n 0)), .e (.s it)] 27 0, [.cells 86 (lc L 1), .pm L.es, .row 36 4 n g]⟩

theorem tQ2_eq (L : LSt) (f it : SV) (vs : Nat → Value) (n : Nat) (g : Nat → List Value) : tQ2 L f it vs n g =
    T.call 67 [AV.e (EV.s (SV.sl 2 4 0 n 0)), AV.e (EV.s (SV.fn 68 []))]
      [AB.cells 86
          [SV.d (Value.int IntKind.i64 L.room), SV.d (Value.int IntKind.u64 L.first), SV.d (Value.int IntKind.u64 L.next),
            SV.d (Value.int IntKind.i64 L.last), SV.mp 1],
        AB.pm L.es, AB.row 36 4 n g]
      (T.go [] (tQ2 L f it vs n g)).kontC := by kernel_rfl


noncomputable def tQ4 (L : LSt) (att tmo : Int) (f it : SV) (vs : Nat → Value) (n : Nat) (g : Nat → List Value) : T (AV × Heap) := post41 4 ⟨fat [1, 5, 12] vs [.e (.s f), .e (.s (.sl 4 4 0 n 0)), .e (.s it)] 27 0, [.cells 86 (lc L 1), .pm L.es, .cells 3 [.d (.int .i64 att)], .cells 3 [.d (.int .i64 tmo)], .row 36 4 n g]⟩

theorem tQ4_eq (L : LSt) (att tmo : Int) (f it : SV) (vs : Nat → Value) (n : Nat) (g : Nat → List Value) : tQ4 L att tmo f it vs n g =
    T.call 67 [AV.e (EV.s (SV.sl 4 4 0 n 0)), AV.e (EV.s (SV.fn 68 []))]
      [AB.cells 86
          [SV.d (Value.int IntKind.i64 L.room), SV.d (Value.int IntKind.u64 L.first), SV.d (Value.int IntKind.u64 L.next),
            SV.d (Value.int IntKind.i64 L.last), SV.mp 1],
        AB.pm L.es, AB.cells 3 [SV.d (Value.int IntKind.i64 att)], AB.cells 3 [SV.d (Value.int IntKind.i64 tmo)],
        AB.row 36 4 n g]
      (T.go [] (tQ4 L att tmo f it vs n g)).kontC := by kernel_rfl


noncomputable def tQ2k (L : LSt) (f it : SV) (vs : Nat → Value) (n : Nat) (g g' : Nat → List Value) : T (AV × Heap) := (tQ2 L f it vs n g).kontC (.tup []) [.cells 86 (lc L 1), .pm L.es, .row 36 4 n g']

theorem tQ2k_eq (L : LSt) (f it : SV) (vs : Nat → Value) (n : Nat) (g g' : Nat → List Value) : tQ2k L f it vs n g g' =
    T.ret
      (AV.e (EV.s (SV.sl 2 4 0 n 0)),
        [AB.cells 86
            [SV.d (Value.int IntKind.i64 L.room), SV.d (Value.int IntKind.u64 L.first), SV.d (Value.int IntKind.u64 L.next),
              SV.d (Value.int IntKind.i64 L.last), SV.mp 1],
          AB.pm L.es, AB.row 36 4 n g']) := by kernel_rfl


noncomputable def tQ4k (L : LSt) (att tmo : Int) (f it : SV) (vs : Nat → Value) (n : Nat) (g g' : Nat → List Value) : T (AV × Heap) := (tQ4 L att tmo f it vs n g).kontC (.tup []) [.cells 86 (lc L 1), .pm L.es, .cells 3 [.d (.int .i64 att)], .cells 3 [.d (.int .i64 tmo)], .row 36 4 n g']

theorem tQ4k_eq (L : LSt) (att tmo : Int) (f it : SV) (vs : Nat → Value) (n : Nat) (g g' : Nat → List Value) : tQ4k L att tmo f it vs n g g' =
    T.ret
      (AV.e (EV.s (SV.sl 4 4 0 n 0)),
        [AB.cells 86
            [SV.d (Value.int IntKind.i64 L.room), SV.d (Value.int IntKind.u64 L.first), SV.d (Value.int IntKind.u64 L.next),
              SV.d (Value.int IntKind.i64 L.last), SV.mp 1],
          AB.pm L.es, AB.cells 3 [SV.d (Value.int IntKind.i64 att)], AB.cells 3 [SV.d (Value.int IntKind.i64 tmo)],
          AB.row 36 4 n g']) := by kernel_rfl


end Go.Proofs.Ythckkoledhjmeaa.Ev
