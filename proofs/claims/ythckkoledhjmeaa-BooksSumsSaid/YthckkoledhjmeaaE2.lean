/-
  The abstract evaluator at this program: orders, other names for blocks, loops, lifting; rows of packets; the loop of ledger.some.
-/
import Derived.Test.YthckkoledhjmeaaE1
import Derived.Test.YthckkoledhjmeaaProg
import Derived.KernelRfl
import Derived.Maps.RangeRun

/-
  Orders for the regions that draw, function by function; they are held against the program's regions here.
-/
namespace Go.Proofs.Ythckkoledhjmeaa.Ev
open Go

def okFn (P : Program) (f : Nat) (ord : Nat → Ct) : Bool :=
  match P.funcs[f]? with
  | some fn => match fn.body with
    | some c => codeB ord c
    | none => true
  | none => true

theorem okFn_ok {P : Program} {f : Nat} {ord : Nat → Ct} (h : okFn P f ord = true) {fn : Func} {c : Code} (h1 : P.funcs[f]? = some fn) (h2 : fn.body = some c) : codeB ord c = true := by
  simp only [okFn, h1, h2] at h
  exact h

def oN : Nat → Ct := fun _ => .done

def o3 : Nat → Ct
  | 12 => .take 0 (.take 1 (.take 2 (.take 3 (.take 4 (.take 6 (.take 7 (.take 8 (.take 9 (.take 10 (.force 5 [[4], [2]] (.force 11 [[10], [8]] (.force 12 [] (.take 13 (.done))))))))))))))
  | 24 => .take 0 (.take 2 (.take 3 (.take 4 (.take 5 (.force 1 [] (.force 6 [[5]] (.take 7 (.take 8 (.take 9 (.take 11 (.take 12 (.take 13 (.take 14 (.force 10 [] (.take 15 (.take 16 (.take 17 (.take 18 (.take 20 (.take 21 (.take 22 (.take 23 (.take 24 (.take 25 (.take 26 (.force 19 [[18, 17, 16, 15, 14]] (.take 27 (.take 28 (.done)))))))))))))))))))))))))))))
  | _ => .done

def o4 : Nat → Ct
  | 31 => .take 0 (.take 1 (.take 2 (.take 3 (.take 4 (.take 5 (.take 6 (.take 7 (.take 8 (.done)))))))))
  | _ => .done

def o6 : Nat → Ct
  | 14 => .take 0 (.take 1 (.take 2 (.take 3 (.take 4 (.take 5 (.take 6 (.take 7 (.take 8 (.take 9 (.take 10 (.take 11 (.take 12 (.take 13 (.take 14 (.take 15 (.take 16 (.take 17 (.take 18 (.take 19 (.take 20 (.take 21 (.take 22 (.take 23 (.take 24 (.take 25 (.take 26 (.done)))))))))))))))))))))))))))
  | 19 => .take 0 (.take 1 (.take 2 (.take 3 (.take 4 (.take 5 (.take 6 (.take 7 (.take 8 (.take 9 (.take 10 (.take 11 (.take 12 (.take 13 (.take 14 (.take 15 (.take 16 (.take 17 (.take 18 (.take 19 (.take 20 (.take 21 (.take 22 (.take 23 (.take 24 (.take 25 (.take 26 (.done)))))))))))))))))))))))))))
  | _ => .done

def o7 : Nat → Ct
  | 8 => .take 0 (.take 1 (.take 2 (.take 3 (.take 4 (.take 5 (.take 6 (.force 7 [[5]] (.take 8 (.take 9 (.take 10 (.take 12 (.take 13 (.take 14 (.take 15 (.take 16 (.take 17 (.take 18 (.take 19 (.take 20 (.force 11 [] (.force 21 [[20, 19], [20, 15]] (.take 22 (.take 23 (.done))))))))))))))))))))))))
  | _ => .done

def o8 : Nat → Ct
  | 10 => .take 0 (.take 1 (.take 2 (.take 3 (.take 4 (.take 5 (.force 6 [[5]] (.take 7 (.take 8 (.take 9 (.take 11 (.take 12 (.take 13 (.take 14 (.force 10 [] (.force 15 [[14]] (.take 16 (.take 17 (.take 18 (.take 19 (.take 21 (.take 22 (.take 23 (.take 24 (.take 25 (.take 26 (.take 27 (.take 28 (.take 29 (.take 30 (.force 20 [] (.take 31 (.take 32 (.done)))))))))))))))))))))))))))))))))
  | _ => .done

def o12 : Nat → Ct
  | 9 => .take 0 (.take 1 (.take 2 (.take 3 (.take 4 (.take 5 (.take 6 (.take 7 (.take 8 (.take 9 (.take 10 (.done)))))))))))
  | _ => .done

def o13 : Nat → Ct
  | 7 => .take 0 (.take 1 (.take 2 (.take 3 (.take 4 (.take 5 (.take 6 (.take 7 (.take 8 (.take 9 (.done))))))))))
  | 11 => .take 0 (.take 1 (.take 2 (.take 3 (.take 4 (.take 5 (.take 6 (.take 7 (.take 8 (.take 9 (.take 10 (.take 11 (.take 12 (.force 13 [[12, 8]] (.force 14 [[4]] (.take 15 (.take 16 (.force 17 [] (.done))))))))))))))))))
  | _ => .done

def o16 : Nat → Ct
  | 6 => .take 0 (.take 1 (.take 2 (.take 3 (.take 4 (.take 5 (.take 6 (.take 7 (.take 8 (.done)))))))))
  | _ => .done

def o17 : Nat → Ct
  | 7 => .take 0 (.take 1 (.take 2 (.take 3 (.take 4 (.take 5 (.force 6 [[5], [3]] (.done)))))))
  | _ => .done

def o21 : Nat → Ct
  | 3 => .take 0 (.take 1 (.take 2 (.take 3 (.take 4 (.take 5 (.take 6 (.take 7 (.take 8 (.take 9 (.take 10 (.done)))))))))))
  | _ => .done

def o26 : Nat → Ct
  | 19 => .take 0 (.take 1 (.take 2 (.take 3 (.take 4 (.take 5 (.take 6 (.take 7 (.take 8 (.take 9 (.take 10 (.take 11 (.force 12 [[11], [7, 5]] (.take 13 (.done))))))))))))))
  | _ => .done

def o27 : Nat → Ct
  | 6 => .take 0 (.take 1 (.take 2 (.take 3 (.take 4 (.take 5 (.take 6 (.take 7 (.take 8 (.done)))))))))
  | _ => .done

def o32 : Nat → Ct
  | 14 => .take 0 (.take 1 (.take 2 (.take 3 (.take 4 (.take 5 (.take 6 (.take 9 (.force 7 [[6]] (.force 8 [[5]] (.take 10 (.take 11 (.force 12 [] (.take 13 (.take 14 (.take 15 (.force 16 [] (.done)))))))))))))))))
  | _ => .done

def o33 : Nat → Ct
  | 9 => .take 0 (.take 1 (.take 2 (.take 3 (.take 4 (.take 5 (.take 6 (.take 7 (.force 8 [[5], [3]] (.take 9 (.take 10 (.take 11 (.take 12 (.take 13 (.done))))))))))))))
  | 12 => .take 0 (.take 2 (.take 3 (.take 4 (.force 1 [] (.take 5 (.force 6 [[3]] (.take 7 (.take 8 (.take 9 (.force 10 [] (.done)))))))))))
  | _ => .done

def o36 : Nat → Ct
  | 4 => .take 0 (.take 1 (.take 2 (.take 3 (.take 4 (.take 5 (.take 6 (.take 7 (.take 8 (.force 9 [[8], [3]] (.take 10 (.done)))))))))))
  | _ => .done

def o45 : Nat → Ct
  | 5 => .take 0 (.take 1 (.take 2 (.take 3 (.take 4 (.take 5 (.take 6 (.take 7 (.force 8 [[6], [3]] (.done)))))))))
  | 7 => .take 0 (.take 1 (.take 2 (.take 3 (.take 4 (.take 5 (.force 6 [[5]] (.force 7 [[4]] (.take 8 (.take 9 (.force 10 [] (.done)))))))))))
  | _ => .done

def o46 : Nat → Ct
  | 8 => .take 0 (.take 1 (.take 2 (.take 3 (.take 4 (.take 5 (.take 6 (.force 7 [[5], [3]] (.done))))))))
  | _ => .done

def o47 : Nat → Ct
  | 3 => .take 0 (.take 1 (.take 2 (.take 3 (.take 4 (.take 5 (.take 6 (.take 7 (.take 8 (.take 9 (.take 10 (.take 11 (.take 12 (.take 13 (.take 14 (.take 15 (.take 16 (.take 17 (.take 18 (.take 19 (.take 20 (.take 21 (.take 22 (.take 23 (.take 24 (.take 25 (.take 26 (.take 27 (.take 28 (.take 29 (.take 30 (.take 31 (.take 32 (.take 33 (.done))))))))))))))))))))))))))))))))))
  | 5 => .take 0 (.take 1 (.take 2 (.take 3 (.take 4 (.take 5 (.take 6 (.take 7 (.take 8 (.take 9 (.two 10 [[9], [7], [7, 6, 5], [7, 6, 3]] (.take 11 (.take 12 (.take 13 (.force 14 [] (.force 15 [] (.take 16 (.done))))))) 14 [] (.force 10 [[9], [7], [7, 6, 5], [7, 6, 3]] (.take 11 (.take 12 (.take 13 (.force 15 [] (.take 16 (.done)))))))))))))))))
  | 7 => .take 0 (.take 1 (.take 2 (.take 3 (.take 4 (.take 5 (.take 6 (.take 7 (.take 8 (.take 9 (.take 10 (.take 11 (.take 12 (.two 13 [[11], [9], [7], [7, 6, 5], [7, 6, 3]] (.take 14 (.take 15 (.take 16 (.force 17 [] (.force 18 [] (.take 19 (.done))))))) 17 [] (.force 13 [[11], [9], [7], [7, 6, 5], [7, 6, 3]] (.take 14 (.take 15 (.take 16 (.force 18 [] (.take 19 (.done))))))))))))))))))))
  | 9 => .take 0 (.take 1 (.take 2 (.take 3 (.take 4 (.take 5 (.take 6 (.take 7 (.force 8 [[6], [5], [3]] (.done)))))))))
  | _ => .done

def o48 : Nat → Ct
  | 3 => .take 0 (.take 1 (.take 2 (.take 3 (.take 4 (.take 5 (.take 6 (.take 7 (.take 8 (.take 9 (.take 10 (.take 11 (.take 12 (.take 13 (.take 14 (.take 15 (.take 16 (.take 17 (.take 18 (.take 19 (.take 20 (.take 21 (.take 22 (.take 23 (.done))))))))))))))))))))))))
  | _ => .done

def o50 : Nat → Ct
  | 6 => .take 0 (.take 1 (.take 2 (.take 3 (.take 4 (.take 5 (.take 6 (.take 7 (.take 8 (.take 9 (.take 10 (.take 11 (.take 12 (.two 13 [[11], [11, 10, 9, 8], [11, 10, 9, 8, 7], [11, 10, 3]] (.take 14 (.take 15 (.take 16 (.force 17 [] (.force 18 [] (.take 19 (.done))))))) 17 [] (.force 13 [[11], [11, 10, 9, 8], [11, 10, 9, 8, 7], [11, 10, 3]] (.take 14 (.take 15 (.take 16 (.force 18 [] (.take 19 (.done))))))))))))))))))))
  | 9 => .take 0 (.take 1 (.take 2 (.take 3 (.take 4 (.take 5 (.force 6 [[5]] (.force 7 [[4]] (.take 8 (.take 9 (.force 10 [] (.done)))))))))))
  | _ => .done

def o51 : Nat → Ct
  | 5 => .take 0 (.take 1 (.take 2 (.take 3 (.take 4 (.take 5 (.take 6 (.take 7 (.take 8 (.take 9 (.take 10 (.take 11 (.take 12 (.two 13 [[11], [11, 10, 9, 8], [11, 10, 9, 8, 7], [11, 10, 3]] (.take 14 (.take 15 (.take 16 (.force 17 [] (.force 18 [] (.take 19 (.done))))))) 17 [] (.force 13 [[11], [11, 10, 9, 8], [11, 10, 9, 8, 7], [11, 10, 3]] (.take 14 (.take 15 (.take 16 (.force 18 [] (.take 19 (.done))))))))))))))))))))
  | 8 => .take 0 (.take 1 (.take 2 (.take 3 (.take 4 (.take 5 (.take 6 (.take 7 (.force 8 [[5], [3]] (.take 9 (.take 10 (.take 11 (.take 12 (.take 13 (.done))))))))))))))
  | _ => .done

def o52 : Nat → Ct
  | 6 => .take 0 (.take 1 (.take 2 (.take 4 (.take 5 (.take 6 (.take 7 (.take 8 (.two 3 [[2]] (.two 9 [[7], [5]] (.take 10 (.take 11 (.take 12 (.force 13 [] (.force 14 [] (.take 15 (.done))))))) 13 [] (.force 9 [[7], [5]] (.take 10 (.take 11 (.take 12 (.force 14 [] (.take 15 (.done)))))))) 13 [] (.force 3 [[2]] (.force 9 [[7], [5]] (.take 10 (.take 11 (.take 12 (.force 14 [] (.take 15 (.done))))))))))))))))
  | _ => .done

def o53 : Nat → Ct
  | 6 => .take 0 (.take 1 (.take 2 (.take 4 (.take 5 (.two 3 [[2]] (.two 6 [[5]] (.take 7 (.take 8 (.take 9 (.force 10 [] (.force 11 [] (.take 12 (.done))))))) 10 [] (.force 6 [[5]] (.take 7 (.take 8 (.take 9 (.force 11 [] (.take 12 (.done)))))))) 10 [] (.force 3 [[2]] (.force 6 [[5]] (.take 7 (.take 8 (.take 9 (.force 11 [] (.take 12 (.done)))))))))))))
  | _ => .done

def o54 : Nat → Ct
  | 3 => .take 0 (.take 1 (.take 2 (.take 3 (.take 4 (.take 5 (.take 6 (.take 7 (.take 8 (.force 9 [[8], [3]] (.take 10 (.done)))))))))))
  | 7 => .take 0 (.take 1 (.take 2 (.take 3 (.take 4 (.take 5 (.take 7 (.take 8 (.take 9 (.take 10 (.take 11 (.two 6 [[5]] (.two 12 [[11]] (.take 13 (.take 14 (.take 15 (.force 16 [] (.force 17 [] (.take 18 (.done))))))) 16 [] (.force 12 [[11]] (.take 13 (.take 14 (.take 15 (.force 17 [] (.take 18 (.done)))))))) 16 [] (.force 6 [[5]] (.force 12 [[11]] (.take 13 (.take 14 (.take 15 (.force 17 [] (.take 18 (.done)))))))))))))))))))
  | _ => .done

def o58 : Nat → Ct
  | 1 => .take 0 (.take 1 (.take 2 (.take 3 (.take 4 (.take 5 (.take 6 (.take 7 (.take 8 (.take 9 (.take 10 (.take 11 (.done))))))))))))
  | _ => .done

def o61 : Nat → Ct
  | 8 => .take 0 (.take 1 (.take 2 (.take 3 (.force 4 [[3]] (.force 5 [[2]] (.force 6 [[0]] (.take 7 (.done))))))))
  | _ => .done

def o64 : Nat → Ct
  | 4 => .take 0 (.take 1 (.take 2 (.take 3 (.take 4 (.take 5 (.take 6 (.take 7 (.take 8 (.take 9 (.take 10 (.take 11 (.take 12 (.take 13 (.take 14 (.take 15 (.done))))))))))))))))
  | 5 => .take 0 (.take 1 (.take 2 (.take 3 (.take 4 (.take 5 (.two 6 [[5], [4], [1]] (.take 7 (.take 8 (.take 9 (.force 10 [] (.force 11 [] (.take 12 (.done))))))) 10 [] (.force 6 [[5], [4], [1]] (.take 7 (.take 8 (.take 9 (.force 11 [] (.take 12 (.done)))))))))))))
  | _ => .done

def o74 : Nat → Ct
  | 5 => .take 0 (.take 1 (.take 2 (.take 3 (.take 4 (.take 5 (.take 6 (.take 7 (.take 8 (.take 9 (.take 10 (.done)))))))))))
  | _ => .done

def o87 : Nat → Ct
  | 17 => .take 0 (.take 1 (.take 2 (.take 3 (.take 4 (.take 5 (.take 6 (.take 7 (.take 8 (.take 9 (.take 10 (.take 11 (.take 12 (.force 13 [[12], [8]] (.take 14 (.take 15 (.take 16 (.done)))))))))))))))))
  | _ => .done

def o94 : Nat → Ct
  | 2 => .take 0 (.take 1 (.take 2 (.take 3 (.take 4 (.take 5 (.take 6 (.force 7 [[6], [3]] (.take 8 (.take 9 (.take 10 (.take 11 (.take 12 (.take 13 (.take 14 (.take 15 (.force 16 [[15], [12]] (.take 17 (.take 18 (.take 19 (.take 20 (.take 21 (.take 22 (.take 23 (.take 24 (.take 25 (.force 26 [[25], [22]] (.take 27 (.take 28 (.take 29 (.take 30 (.take 31 (.take 32 (.take 33 (.take 34 (.take 35 (.take 36 (.take 37 (.take 38 (.take 39 (.take 40 (.take 41 (.take 42 (.take 43 (.take 44 (.take 45 (.take 46 (.take 47 (.take 48 (.take 49 (.take 50 (.take 51 (.take 52 (.take 53 (.force 54 [[53], [53, 41, 40, 39, 38], [53, 41, 40, 39, 35, 34], [53, 41, 40, 39, 35, 31]] (.take 55 (.take 56 (.take 57 (.done))))))))))))))))))))))))))))))))))))))))))))))))))))))))))
  | _ => .done

def o96 : Nat → Ct
  | 4 => .take 0 (.take 1 (.take 2 (.take 3 (.take 4 (.take 5 (.take 6 (.take 7 (.take 8 (.take 9 (.take 10 (.take 11 (.take 12 (.take 13 (.force 14 [[13], [8]] (.take 15 (.take 16 (.done)))))))))))))))))
  | 6 => .take 0 (.take 1 (.take 2 (.take 3 (.take 4 (.take 5 (.take 6 (.take 7 (.take 8 (.take 9 (.take 10 (.take 11 (.take 12 (.take 13 (.take 14 (.force 15 [[13], [9]] (.take 16 (.force 17 [] (.done))))))))))))))))))
  | _ => .done

def o97 : Nat → Ct
  | 10 => .take 0 (.take 1 (.take 2 (.take 3 (.take 4 (.take 5 (.take 6 (.take 7 (.take 8 (.take 9 (.take 10 (.take 11 (.take 12 (.take 13 (.take 14 (.take 15 (.take 16 (.force 17 [[15], [11]] (.take 18 (.force 19 [] (.done))))))))))))))))))))
  | _ => .done

def o98 : Nat → Ct
  | 10 => .take 0 (.take 1 (.take 2 (.take 3 (.take 4 (.take 5 (.take 6 (.take 7 (.take 8 (.take 9 (.take 10 (.take 11 (.take 12 (.take 13 (.take 14 (.take 15 (.take 16 (.force 17 [[15], [11]] (.take 18 (.force 19 [] (.done))))))))))))))))))))
  | _ => .done

def o100 : Nat → Ct
  | 3 => .take 0 (.take 1 (.take 2 (.take 3 (.take 4 (.take 5 (.take 6 (.take 7 (.take 8 (.take 9 (.take 10 (.take 11 (.take 12 (.force 13 [[11], [7]] (.take 14 (.force 15 [] (.done))))))))))))))))
  | _ => .done

def o101 : Nat → Ct
  | 5 => .take 0 (.take 1 (.take 2 (.take 3 (.take 4 (.take 5 (.take 6 (.take 7 (.take 8 (.take 9 (.take 10 (.take 11 (.take 12 (.take 13 (.force 14 [[13], [8]] (.take 15 (.take 16 (.take 17 (.done))))))))))))))))))
  | 11 => .take 0 (.take 1 (.take 2 (.take 3 (.take 4 (.take 5 (.take 6 (.take 7 (.take 8 (.take 9 (.take 10 (.take 11 (.take 12 (.take 13 (.take 14 (.force 15 [[13], [9]] (.take 16 (.force 17 [] (.done))))))))))))))))))
  | 16 => .take 0 (.take 1 (.take 2 (.take 3 (.take 4 (.take 5 (.take 6 (.take 7 (.take 8 (.take 9 (.force 10 [[9], [4]] (.take 11 (.take 12 (.done)))))))))))))
  | 17 => .take 0 (.take 1 (.take 2 (.take 3 (.take 4 (.take 5 (.take 6 (.take 7 (.take 8 (.take 9 (.take 10 (.take 11 (.take 12 (.take 13 (.take 14 (.force 15 [[13], [9]] (.take 16 (.force 17 [] (.done))))))))))))))))))
  | 22 => .take 0 (.take 1 (.take 2 (.take 3 (.take 4 (.take 5 (.take 6 (.take 7 (.take 8 (.take 9 (.force 10 [[9], [4]] (.take 11 (.take 12 (.done)))))))))))))
  | 23 => .take 0 (.take 1 (.take 2 (.take 3 (.take 4 (.take 5 (.take 6 (.take 7 (.take 8 (.take 9 (.take 10 (.take 11 (.take 12 (.take 13 (.take 14 (.force 15 [[13], [9]] (.take 16 (.force 17 [] (.done))))))))))))))))))
  | _ => .done

def o102 : Nat → Ct
  | 1 => .take 0 (.take 1 (.take 2 (.take 3 (.take 4 (.take 5 (.take 6 (.take 7 (.take 8 (.take 9 (.take 10 (.take 11 (.take 12 (.force 13 [[11], [7]] (.take 14 (.force 15 [] (.done))))))))))))))))
  | 3 => .take 0 (.take 1 (.take 2 (.take 3 (.take 4 (.take 5 (.take 6 (.take 7 (.take 8 (.take 9 (.take 10 (.take 11 (.take 12 (.force 13 [[12], [8]] (.take 14 (.take 15 (.take 16 (.done)))))))))))))))))
  | 5 => .take 0 (.take 1 (.take 2 (.take 3 (.take 4 (.take 5 (.take 6 (.take 7 (.take 8 (.take 9 (.take 10 (.take 11 (.take 12 (.force 13 [[12], [8]] (.take 14 (.take 15 (.done))))))))))))))))
  | 8 => .take 0 (.take 1 (.take 2 (.take 3 (.take 4 (.take 5 (.take 6 (.take 7 (.take 8 (.take 9 (.take 10 (.take 11 (.take 12 (.force 13 [[11], [7]] (.take 14 (.force 15 [] (.done))))))))))))))))
  | _ => .done

def o103 : Nat → Ct
  | 1 => .take 0 (.take 1 (.take 2 (.take 3 (.take 4 (.take 5 (.take 6 (.take 7 (.take 8 (.take 9 (.take 10 (.take 11 (.take 12 (.force 13 [[11], [7]] (.take 14 (.force 15 [] (.done))))))))))))))))
  | 3 => .take 0 (.take 1 (.take 2 (.take 3 (.take 4 (.take 5 (.take 6 (.take 7 (.take 8 (.take 9 (.take 10 (.take 11 (.take 12 (.force 13 [[12], [8]] (.take 14 (.take 15 (.done))))))))))))))))
  | 5 => .take 0 (.take 1 (.take 2 (.take 3 (.take 4 (.take 5 (.take 6 (.take 7 (.take 8 (.take 9 (.take 10 (.take 11 (.take 12 (.force 13 [[12], [8]] (.take 14 (.take 15 (.take 16 (.done)))))))))))))))))
  | 8 => .take 0 (.take 1 (.take 2 (.take 3 (.take 4 (.take 5 (.take 6 (.take 7 (.take 8 (.take 9 (.take 10 (.take 11 (.take 12 (.force 13 [[11], [7]] (.take 14 (.force 15 [] (.done))))))))))))))))
  | 10 => .take 0 (.take 1 (.take 2 (.take 3 (.take 4 (.take 5 (.take 6 (.take 7 (.take 8 (.take 9 (.take 10 (.take 11 (.take 12 (.force 13 [[11], [7]] (.take 14 (.force 15 [] (.done))))))))))))))))
  | 13 => .take 0 (.take 1 (.take 2 (.take 3 (.take 4 (.take 5 (.take 6 (.take 7 (.take 8 (.take 9 (.take 10 (.take 11 (.take 12 (.force 13 [[12], [8]] (.take 14 (.take 15 (.done))))))))))))))))
  | 15 => .take 0 (.take 1 (.take 2 (.take 3 (.take 4 (.take 5 (.take 6 (.take 7 (.take 8 (.take 9 (.take 10 (.take 11 (.take 12 (.force 13 [[12], [8]] (.take 14 (.take 15 (.take 16 (.done)))))))))))))))))
  | 18 => .take 0 (.take 1 (.take 2 (.take 3 (.take 4 (.take 5 (.take 6 (.take 7 (.take 8 (.take 9 (.take 10 (.take 11 (.take 12 (.force 13 [[11], [7]] (.take 14 (.force 15 [] (.done))))))))))))))))
  | 21 => .take 0 (.take 1 (.take 2 (.take 3 (.take 4 (.take 5 (.take 6 (.take 7 (.take 8 (.take 9 (.take 10 (.take 11 (.take 12 (.force 13 [[11], [7]] (.take 14 (.force 15 [] (.done))))))))))))))))
  | _ => .done

def o110 : Nat → Ct
  | 3 => .take 0 (.take 1 (.take 2 (.take 3 (.take 4 (.take 5 (.take 6 (.take 7 (.take 8 (.take 9 (.take 10 (.take 11 (.take 12 (.take 13 (.take 14 (.take 15 (.take 16 (.take 17 (.take 18 (.force 19 [[18], [11]] (.take 20 (.take 21 (.done))))))))))))))))))))))
  | 5 => .take 0 (.take 1 (.take 2 (.take 3 (.take 4 (.take 5 (.take 6 (.take 7 (.take 8 (.take 9 (.take 10 (.take 11 (.take 12 (.force 13 [[12], [6]] (.take 14 (.take 15 (.done))))))))))))))))
  | 6 => .take 0 (.take 1 (.take 2 (.take 3 (.take 4 (.take 5 (.take 6 (.take 7 (.take 8 (.take 9 (.take 10 (.take 11 (.take 12 (.take 13 (.take 14 (.take 15 (.take 16 (.take 17 (.take 18 (.take 19 (.take 20 (.force 21 [[19], [13]] (.take 22 (.force 23 [] (.done))))))))))))))))))))))))
  | _ => .done

def o112 : Nat → Ct
  | 1 => .take 0 (.take 1 (.take 2 (.take 3 (.take 4 (.take 5 (.take 6 (.take 7 (.take 8 (.force 9 [[5], [2]] (.done))))))))))
  | 2 => .take 0 (.take 1 (.take 2 (.take 3 (.take 4 (.take 5 (.take 6 (.take 7 (.take 8 (.force 9 [[5], [2]] (.done))))))))))
  | 3 => .take 0 (.take 1 (.take 2 (.take 3 (.take 4 (.take 5 (.take 6 (.take 7 (.take 8 (.force 9 [[5], [2]] (.done))))))))))
  | _ => .done

def o115 : Nat → Ct
  | 1 => .take 0 (.take 1 (.take 2 (.take 3 (.take 4 (.take 5 (.take 6 (.take 7 (.take 8 (.force 9 [[8], [4]] (.take 10 (.done)))))))))))
  | _ => .done

theorem k3 : okFn Try.prog 3 o3 = true := by kernel_rfl
theorem k4 : okFn Try.prog 4 o4 = true := by kernel_rfl
theorem k5 : okFn Try.prog 5 oN = true := by kernel_rfl
theorem k6 : okFn Try.prog 6 o6 = true := by kernel_rfl
theorem k7 : okFn Try.prog 7 o7 = true := by kernel_rfl
theorem k8 : okFn Try.prog 8 o8 = true := by kernel_rfl
theorem k9 : okFn Try.prog 9 oN = true := by kernel_rfl
theorem k10 : okFn Try.prog 10 oN = true := by kernel_rfl
theorem k11 : okFn Try.prog 11 oN = true := by kernel_rfl
theorem k12 : okFn Try.prog 12 o12 = true := by kernel_rfl
theorem k13 : okFn Try.prog 13 o13 = true := by kernel_rfl
theorem k14 : okFn Try.prog 14 oN = true := by kernel_rfl
theorem k15 : okFn Try.prog 15 oN = true := by kernel_rfl
theorem k16 : okFn Try.prog 16 o16 = true := by kernel_rfl
theorem k17 : okFn Try.prog 17 o17 = true := by kernel_rfl
theorem k18 : okFn Try.prog 18 oN = true := by kernel_rfl
theorem k19 : okFn Try.prog 19 oN = true := by kernel_rfl
theorem k20 : okFn Try.prog 20 oN = true := by kernel_rfl
theorem k21 : okFn Try.prog 21 o21 = true := by kernel_rfl
theorem k22 : okFn Try.prog 22 oN = true := by kernel_rfl
theorem k23 : okFn Try.prog 23 oN = true := by kernel_rfl
theorem k24 : okFn Try.prog 24 oN = true := by kernel_rfl
theorem k25 : okFn Try.prog 25 oN = true := by kernel_rfl
theorem k26 : okFn Try.prog 26 o26 = true := by kernel_rfl
theorem k27 : okFn Try.prog 27 o27 = true := by kernel_rfl
theorem k28 : okFn Try.prog 28 oN = true := by kernel_rfl
theorem k29 : okFn Try.prog 29 oN = true := by kernel_rfl
theorem k30 : okFn Try.prog 30 oN = true := by kernel_rfl
theorem k31 : okFn Try.prog 31 oN = true := by kernel_rfl
theorem k32 : okFn Try.prog 32 o32 = true := by kernel_rfl
theorem k33 : okFn Try.prog 33 o33 = true := by kernel_rfl
theorem k34 : okFn Try.prog 34 oN = true := by kernel_rfl
theorem k35 : okFn Try.prog 35 oN = true := by kernel_rfl
theorem k36 : okFn Try.prog 36 o36 = true := by kernel_rfl
theorem k37 : okFn Try.prog 37 oN = true := by kernel_rfl
theorem k38 : okFn Try.prog 38 oN = true := by kernel_rfl
theorem k39 : okFn Try.prog 39 oN = true := by kernel_rfl
theorem k40 : okFn Try.prog 40 oN = true := by kernel_rfl
theorem k41 : okFn Try.prog 41 oN = true := by kernel_rfl
theorem k42 : okFn Try.prog 42 oN = true := by kernel_rfl
theorem k43 : okFn Try.prog 43 oN = true := by kernel_rfl
theorem k44 : okFn Try.prog 44 oN = true := by kernel_rfl
theorem k45 : okFn Try.prog 45 o45 = true := by kernel_rfl
theorem k46 : okFn Try.prog 46 o46 = true := by kernel_rfl
theorem k47 : okFn Try.prog 47 o47 = true := by kernel_rfl
theorem k48 : okFn Try.prog 48 o48 = true := by kernel_rfl
theorem k49 : okFn Try.prog 49 oN = true := by kernel_rfl
theorem k50 : okFn Try.prog 50 o50 = true := by kernel_rfl
theorem k51 : okFn Try.prog 51 o51 = true := by kernel_rfl
theorem k52 : okFn Try.prog 52 o52 = true := by kernel_rfl
theorem k53 : okFn Try.prog 53 o53 = true := by kernel_rfl
theorem k54 : okFn Try.prog 54 o54 = true := by kernel_rfl
theorem k55 : okFn Try.prog 55 oN = true := by kernel_rfl
theorem k56 : okFn Try.prog 56 oN = true := by kernel_rfl
theorem k57 : okFn Try.prog 57 oN = true := by kernel_rfl
theorem k58 : okFn Try.prog 58 o58 = true := by kernel_rfl
theorem k59 : okFn Try.prog 59 oN = true := by kernel_rfl
theorem k60 : okFn Try.prog 60 oN = true := by kernel_rfl
theorem k61 : okFn Try.prog 61 o61 = true := by kernel_rfl
theorem k62 : okFn Try.prog 62 oN = true := by kernel_rfl
theorem k63 : okFn Try.prog 63 oN = true := by kernel_rfl
theorem k64 : okFn Try.prog 64 o64 = true := by kernel_rfl
theorem k65 : okFn Try.prog 65 oN = true := by kernel_rfl
theorem k66 : okFn Try.prog 66 oN = true := by kernel_rfl
theorem k67 : okFn Try.prog 67 oN = true := by kernel_rfl
theorem k68 : okFn Try.prog 68 oN = true := by kernel_rfl
theorem k69 : okFn Try.prog 69 oN = true := by kernel_rfl
theorem k70 : okFn Try.prog 70 oN = true := by kernel_rfl
theorem k71 : okFn Try.prog 71 oN = true := by kernel_rfl
theorem k72 : okFn Try.prog 72 oN = true := by kernel_rfl
theorem k73 : okFn Try.prog 73 oN = true := by kernel_rfl
theorem k74 : okFn Try.prog 74 o74 = true := by kernel_rfl
theorem k75 : okFn Try.prog 75 oN = true := by kernel_rfl
theorem k76 : okFn Try.prog 76 oN = true := by kernel_rfl
theorem k77 : okFn Try.prog 77 oN = true := by kernel_rfl
theorem k78 : okFn Try.prog 78 oN = true := by kernel_rfl
theorem k79 : okFn Try.prog 79 oN = true := by kernel_rfl
theorem k80 : okFn Try.prog 80 oN = true := by kernel_rfl
theorem k81 : okFn Try.prog 81 oN = true := by kernel_rfl
theorem k82 : okFn Try.prog 82 oN = true := by kernel_rfl
theorem k83 : okFn Try.prog 83 oN = true := by kernel_rfl
theorem k84 : okFn Try.prog 84 oN = true := by kernel_rfl
theorem k85 : okFn Try.prog 85 oN = true := by kernel_rfl
theorem k86 : okFn Try.prog 86 oN = true := by kernel_rfl

end Go.Proofs.Ythckkoledhjmeaa.Ev

/-
  The abstract evaluator: what is asked of the program; entries; loops; other names for blocks.
-/
namespace Go.Proofs.Ythckkoledhjmeaa.Ev
open Go

def namesB (P : Program) : Bool := P.funcs.toList.all fun fn => !(fn.name == "runtime.NumGoroutine")

theorem fine : Fine Try.prog where
  name := by
    have h : namesB Try.prog = true := by kernel_rfl
    intro f fn hf
    have := List.all_eq_true.1 h fn (Array.mem_toList_iff.2 (Array.mem_of_getElem? hf))
    simpa using this
  mixed := by kernel_rfl

/-! ### Entries -/

def Ent.ok (P : Program) (f : Nat) : Ent → Prop
  | .stop => True
  | .summ g => ∀ args H Q, (g args H).sat P Q → CallsA P f args H fun r H' => Q (r, H')
  | .body ord _ => okFn P f ord = true

def entL : List (Nat × Ent) → Nat → Ent
  | [], _ => .stop
  | (f, e) :: l, g => match Nat.beq f g with
    | true => e
    | false => entL l g

def EntsOk (P : Program) : List (Nat × Ent) → Prop
  | [] => True
  | (f, e) :: l => e.ok P f ∧ EntsOk P l

theorem entL_ok {P : Program} : ∀ {l : List (Nat × Ent)}, EntsOk P l → ∀ f, (entL l f).ok P f
  | [], _, f => trivial
  | (g, e) :: l, h, f => by
    unfold entL
    split
    · rename_i hb; rw [← Nat.eq_of_beq_eq_true hb]; exact h.1
    · exact entL_ok h.2 f

theorem EntsOk.ent {P : Program} {l : List (Nat × Ent)} (h : EntsOk P l) : EntOk P (entL l) where
  summ f g hg := by have := entL_ok h f; rw [hg] at this; exact this
  body f ord un fn c hg h1 h2 := by have := entL_ok h f; rw [hg] at this; exact okFn_ok this h1 h2

/-- A call, by the entries. -/
theorem calls_of {P : Program} (hP : Fine P) {l : List (Nat × Ent)} (hl : EntsOk P l) (m f : Nat) (args : List AV) (H : Heap) {Q : AV → Heap → Prop} (h : (callT P (entL l) m f args H fun r H' => .ret (r, H')).sat P fun x => Q x.1 x.2) : CallsA P f args H Q :=
  (call_sat (α := AV × Heap) (Q0 := fun x => Q x.1 x.2) hP hl.ent m f args H _ h).mono fun _ _ h => h

end Go.Proofs.Ythckkoledhjmeaa.Ev

/-
  The abstract evaluator: a state told in another way: slots that nobody reads, other numbers for blocks, nil slices; loops.
-/
namespace Go.Proofs.Ythckkoledhjmeaa.Ev
open Go

/-- Slots that nobody reads. -/
def junk (vs : Nat → Value) : List Nat → List AV → List AV
  | [], fr => fr
  | i :: is, fr => junk vs is (fr.set i (.d (vs i)))

theorem FRep.junk1 {E : Env} {n : Nat} {fr : List AV} {a : Act} (h : FRep E n fr a) (i : Nat) : FRep E n (fr.set i (.d ((fr.getD i undefA).conc E))) a := by
  refine ⟨?_, fun x hx => ?_, fun x hx => ?_, h.defers⟩
  · rw [h.tmps, List.map_set]
    congr 1
    by_cases hi : i < fr.length
    · apply List.ext_getElem?
      intro j
      rw [List.getElem?_set]
      by_cases hj : i = j
      · subst hj
        simp [hi, AV.conc, EV.conc, SV.conc]
      · simp [hj]
    · rw [List.set_eq_of_length_le (by simp; omega)]
  · rcases List.mem_or_eq_of_mem_set hx with hx | rfl
    · exact h.sc x hx
    · exact Nat.zero_le _
  · rcases List.mem_or_eq_of_mem_set hx with hx | rfl
    · exact h.ok x hx
    · exact ok_s.2 trivial

theorem FRep.junk {E : Env} {n : Nat} {a : Act} : ∀ (is : List Nat) {fr : List AV}, FRep E n fr a → is.Nodup → ∃ vs, FRep E n (Ev.junk vs is fr) a
  | [], fr, h, _ => ⟨fun _ => undef, h⟩
  | i :: is, fr, h, hn => by
    obtain ⟨vs, hv⟩ := FRep.junk is (h.junk1 i) (List.nodup_cons.1 hn).2
    refine ⟨fun j => if j = i then (fr.getD i undefA).conc E else vs j, ?_⟩
    have : ∀ (is : List Nat) (fr' : List AV), i ∉ is → Ev.junk (fun j => if j = i then (fr.getD i undefA).conc E else vs j) is fr' = Ev.junk vs is fr' := by
      intro is
      induction is with
      | nil => intro fr' _; rfl
      | cons j js ih =>
        intro fr' hi
        simp only [List.mem_cons, not_or] at hi
        simp only [Ev.junk, if_neg (Ne.symm hi.1)]
        exact ih _ hi.2
    simp only [Ev.junk, if_true]
    rw [this _ _ (List.nodup_cons.1 hn).1]
    exact hv

/-! ### Other numbers for blocks -/

/-- Where a number stands. -/
def posOf (l : Nat) : List (Option Nat) → Option Nat
  | [] => none
  | none :: ms => (posOf l ms).map (· + 1)
  | some m :: ms => match Nat.beq l m with
    | true => some 0
    | false => (posOf l ms).map (· + 1)

theorem posOf_get : ∀ {ms : List (Option Nat)} {l p : Nat}, posOf l ms = some p → ms[p]? = some (some l)
  | [], l, p, h => by cases h
  | none :: ms, l, p, h => by
    unfold posOf at h
    cases hp : posOf l ms with
    | none => rw [hp] at h; cases h
    | some q => rw [hp] at h; cases h; simpa using posOf_get hp
  | some m :: ms, l, p, h => by
    unfold posOf at h
    split at h
    · rename_i hb; cases h; rw [Nat.eq_of_beq_eq_true hb]; rfl
    · cases hp : posOf l ms with
      | none => rw [hp] at h; cases h
      | some q => rw [hp] at h; cases h; simpa using posOf_get hp

def renCaps (ms : List (Option Nat)) : List (Nat × Nat) → Option (List (Nat × Nat))
  | [] => some []
  | (l, o) :: cs => match posOf l ms, renCaps ms cs with
    | some p, some cs' => some ((p, o) :: cs')
    | _, _ => none

def SV.ren (ms : List (Option Nat)) : SV → Option SV
  | .c v => some (.c v)
  | .d v => some (.d v)
  | .ptr l o => match posOf l ms with | some p => some (.ptr p o) | none => none
  | .rp l k i o => match posOf l ms with | some p => some (.rp p k i o) | none => none
  | .sl l k i n z => match posOf l ms with | some p => some (.sl p k i n z) | none => none
  | .mp l => match posOf l ms with | some p => some (.mp p) | none => none
  | .fn f caps => match renCaps ms caps with | some cs => some (.fn f cs) | none => none

def renCells (ms : List (Option Nat)) : List SV → Option (List SV)
  | [] => some []
  | x :: xs => match x.ren ms, renCells ms xs with
    | some y, some ys => some (y :: ys)
    | _, _ => none

def EV.ren (ms : List (Option Nat)) : EV → Option EV
  | .s x => match x.ren ms with | some y => some (.s y) | none => none
  | .agg cs => match renCells ms cs with | some ds => some (.agg ds) | none => none

def renEVs (ms : List (Option Nat)) : List EV → Option (List EV)
  | [] => some []
  | x :: xs => match x.ren ms, renEVs ms xs with
    | some y, some ys => some (y :: ys)
    | _, _ => none

def AV.ren (ms : List (Option Nat)) : AV → Option AV
  | .e x => match x.ren ms with | some y => some (.e y) | none => none
  | .tup vs => match renEVs ms vs with | some us => some (.tup us) | none => none

def renFr (ms : List (Option Nat)) : List AV → Option (List AV)
  | [] => some []
  | x :: xs => match x.ren ms, renFr ms xs with
    | some y, some ys => some (y :: ys)
    | _, _ => none

def AB.ren (ms : List (Option Nat)) : AB → Option AB
  | .cells ty cs => match renCells ms cs with | some ds => some (.cells ty ds) | none => none
  | B => some B

def renH (ms : List (Option Nat)) (H : Heap) : List (Option Nat) → Option Heap
  | [] => some []
  | none :: r => match renH ms H r with
    | some H' => some (.dead :: H')
    | none => none
  | some m :: r => match H[m]?, renH ms H r with
    | some B, some H' => match B.ren ms with
      | some B' => some (B' :: H')
      | none => none
    | _, _ => none

def Env.via (E : Env) (ms : List (Option Nat)) : Env where
  blk l := E.blk ((ms.getD l none).getD l)
  base l := E.base ((ms.getD l none).getD l)
  cap l := E.cap ((ms.getD l none).getD l)
  nil l := E.nil ((ms.getD l none).getD l)

section
variable {E : Env} {ms : List (Option Nat)}

theorem getD_of {l p : Nat} (h : posOf l ms = some p) : (ms.getD p none).getD p = l := by
  rw [List.getD_eq_getElem?_getD, posOf_get h]; rfl

theorem pos_lt {l p : Nat} (h : posOf l ms = some p) : p < ms.length := (List.getElem?_eq_some_iff.1 (posOf_get h)).1

theorem renCaps_ok : ∀ {cs ds : List (Nat × Nat)}, renCaps ms cs = some ds →
    ds.map (fun p => Value.pointer (some ⟨(E.via ms).blk p.1, p.2, none⟩)) = cs.map (fun p => Value.pointer (some ⟨E.blk p.1, p.2, none⟩)) ∧ ds.foldr (fun p n => max (p.1 + 1) n) 0 ≤ ms.length
  | [], ds, h => by cases h; exact ⟨rfl, Nat.zero_le _⟩
  | (l, o) :: cs, ds, h => by
    simp only [renCaps] at h
    split at h
    · rename_i p cs' hp hc
      cases h
      obtain ⟨h1, h2⟩ := renCaps_ok hc
      refine ⟨?_, ?_⟩
      · rw [List.map_cons, List.map_cons, h1]; simp only [Env.via, getD_of hp]
      · have := pos_lt hp; simp only [List.foldr_cons]; omega
    · cases h

theorem SV.ren_ok {x y : SV} (h : x.ren ms = some y) : y.conc (E.via ms) = x.conc E ∧ y.ref ≤ ms.length ∧ (x.ok E → y.ok (E.via ms)) := by
  cases x <;> simp only [SV.ren] at h
  case c v => cases h; exact ⟨rfl, Nat.zero_le _, fun _ => trivial⟩
  case d v => cases h; exact ⟨rfl, Nat.zero_le _, fun _ => trivial⟩
  case fn f caps =>
    split at h
    · rename_i cs hc
      cases h
      obtain ⟨h1, h2⟩ := renCaps_ok (E := E) hc
      exact ⟨by simp only [SV.conc, h1], h2, fun _ => trivial⟩
    · cases h
  all_goals
    split at h
    · rename_i p hp
      cases h
      refine ⟨by simp only [SV.conc, Env.via, getD_of hp], by have := pos_lt hp; simp only [SV.ref]; omega, fun h => ?_⟩
      simp only [SV.ok, Env.via, getD_of hp] at h ⊢
      try exact h
    · cases h

theorem renCells_ok : ∀ {cs ds : List SV}, renCells ms cs = some ds → ds.map (SV.conc (E.via ms)) = cs.map (SV.conc E) ∧ refs ds ≤ ms.length ∧ ((∀ x ∈ cs, x.ok E) → ∀ x ∈ ds, x.ok (E.via ms)) ∧ ds.length = cs.length
  | [], ds, h => by cases h; exact ⟨rfl, Nat.zero_le _, fun _ => by simp, rfl⟩
  | x :: xs, ds, h => by
    simp only [renCells] at h
    split at h
    · rename_i y ys hy hys
      cases h
      obtain ⟨h1, h2, h3⟩ := SV.ren_ok (E := E) hy
      obtain ⟨g1, g2, g3, g4⟩ := renCells_ok hys
      refine ⟨by rw [List.map_cons, List.map_cons, h1, g1], refs_le.2 ?_, fun h => ?_, by simp [g4]⟩
      · simp only [List.mem_cons, forall_eq_or_imp]
        exact ⟨h2, refs_le.1 g2⟩
      · simp only [List.mem_cons, forall_eq_or_imp] at h ⊢
        exact ⟨h3 h.1, g3 h.2⟩
    · cases h

theorem EV.ren_ok {x y : EV} (h : x.ren ms = some y) : y.conc (E.via ms) = x.conc E ∧ y.ref ≤ ms.length ∧ ((∀ z ∈ x.svs, z.ok E) → ∀ z ∈ y.svs, z.ok (E.via ms)) := by
  cases x with
  | s x =>
    simp only [EV.ren] at h
    split at h
    · rename_i y hy
      cases h
      obtain ⟨h1, h2, h3⟩ := SV.ren_ok (E := E) hy
      exact ⟨h1, h2, fun h => by simpa [EV.svs] using h3 (by simpa [EV.svs] using h)⟩
    · cases h
  | agg cs =>
    simp only [EV.ren] at h
    split at h
    · rename_i ds hd
      cases h
      obtain ⟨h1, h2, h3, _⟩ := renCells_ok (E := E) hd
      exact ⟨by simp only [EV.conc, h1], h2, h3⟩
    · cases h

theorem renEVs_ok : ∀ {cs ds : List EV}, renEVs ms cs = some ds → ds.map (EV.conc (E.via ms)) = cs.map (EV.conc E) ∧ ds.foldr (fun x n => max x.ref n) 0 ≤ ms.length ∧ ((∀ x ∈ cs.flatMap EV.svs, x.ok E) → ∀ x ∈ ds.flatMap EV.svs, x.ok (E.via ms))
  | [], ds, h => by cases h; exact ⟨rfl, Nat.zero_le _, fun _ => by simp⟩
  | x :: xs, ds, h => by
    simp only [renEVs] at h
    split at h
    · rename_i y ys hy hys
      cases h
      obtain ⟨h1, h2, h3⟩ := EV.ren_ok (E := E) hy
      obtain ⟨g1, g2, g3⟩ := renEVs_ok hys
      refine ⟨by rw [List.map_cons, List.map_cons, h1, g1], by simp only [List.foldr_cons]; omega, fun h => ?_⟩
      simp only [List.flatMap_cons, List.mem_append] at h ⊢
      intro z hz
      rcases hz with hz | hz
      · exact h3 (fun z hz => h z (.inl hz)) z hz
      · exact g3 (fun z hz => h z (.inr hz)) z hz
    · cases h

theorem AV.ren_ok {x y : AV} (h : x.ren ms = some y) : y.conc (E.via ms) = x.conc E ∧ y.ref ≤ ms.length ∧ (x.ok E → y.ok (E.via ms)) := by
  cases x with
  | e x =>
    simp only [AV.ren] at h
    split at h
    · rename_i y hy; cases h; exact EV.ren_ok hy
    · cases h
  | tup vs =>
    simp only [AV.ren] at h
    split at h
    · rename_i us hu
      cases h
      obtain ⟨h1, h2, h3⟩ := renEVs_ok (E := E) hu
      exact ⟨by simp only [AV.conc, h1], h2, h3⟩
    · cases h

theorem renFr_ok : ∀ {fr fr' : List AV}, renFr ms fr = some fr' → fr'.map (AV.conc (E.via ms)) = fr.map (AV.conc E) ∧ (∀ x ∈ fr', x.ref ≤ ms.length) ∧ ((∀ x ∈ fr, x.ok E) → ∀ x ∈ fr', x.ok (E.via ms))
  | [], fr', h => by cases h; exact ⟨rfl, by simp, fun _ => by simp⟩
  | x :: xs, fr', h => by
    simp only [renFr] at h
    split at h
    · rename_i y ys hy hys
      cases h
      obtain ⟨h1, h2, h3⟩ := AV.ren_ok (E := E) hy
      obtain ⟨g1, g2, g3⟩ := renFr_ok hys
      refine ⟨by rw [List.map_cons, List.map_cons, h1, g1], by simp only [List.mem_cons, forall_eq_or_imp]; exact ⟨h2, g2⟩, fun h => ?_⟩
      simp only [List.mem_cons, forall_eq_or_imp] at h ⊢
      exact ⟨h3 h.1, g3 h.2⟩
    · cases h

theorem renH_get {H : Heap} : ∀ {r : List (Option Nat)} {H' : Heap}, renH ms H r = some H' → H'.length = r.length ∧ ∀ (p : Nat) (B' : AB), H'[p]? = some B' → (r[p]? = some none ∧ B' = .dead) ∨ ∃ m B, r[p]? = some (some m) ∧ H[m]? = some B ∧ B.ren ms = some B'
  | [], H', h => by cases h; exact ⟨rfl, fun p B' h => by simp at h⟩
  | none :: r, H', h => by
    simp only [renH] at h
    split at h
    · rename_i H1 hH
      cases h
      obtain ⟨h1, h2⟩ := renH_get hH
      refine ⟨by simp [h1], fun p C hp => ?_⟩
      cases p with
      | zero => simp at hp; subst hp; exact .inl ⟨rfl, rfl⟩
      | succ p => simp at hp; simpa using h2 p C hp
    · cases h
  | some m :: r, H', h => by
    simp only [renH] at h
    split at h
    · rename_i B H1 hB hH
      split at h
      · rename_i B' hB'
        cases h
        obtain ⟨h1, h2⟩ := renH_get hH
        refine ⟨by simp [h1], fun p C hp => ?_⟩
        cases p with
        | zero => simp at hp; subst hp; exact .inr ⟨m, B, rfl, hB, hB'⟩
        | succ p => simp at hp; simpa using h2 p C hp
      · cases h
    · cases h

theorem BRep.ren {w : World} {l p : Nat} {B B' : AB} (hr : B.ren ms = some B') (hp : (ms.getD p none).getD p = l) (h : BRep E w l B) : BRep (E.via ms) w p B' := by
  subst hp
  cases B <;> simp only [AB.ren] at hr
  case cells ty cs =>
    split at hr
    · rename_i ds hd
      cases hr
      have := (renCells_ok (E := E) hd).1
      simp only [BRep, this]
      exact h
    · cases hr
  case row ty k n g => cases hr; exact RowR.mk h.pos h.nil h.cap h.mem h.len h.one
  case lit ty k ch =>
    cases hr
    have h : RowR E w ((ms.getD p none).getD p) ty k ch.length (fun j => ch.getD j []) := h
    exact RowR.mk h.pos h.nil h.cap h.mem h.len h.one
  case ro k n g => cases hr; exact RoR.mk h.pos h.nil h.cap h.mem h.len h.one
  case pm es => cases hr; exact h
  case dead => cases hr; trivial

theorem BOk.ren {n : Nat} {B B' : AB} (hr : B.ren ms = some B') (h : BOk E n B) : BOk (E.via ms) ms.length B' := by
  cases B <;> simp only [AB.ren] at hr
  case cells ty cs =>
    split at hr
    · rename_i ds hd
      cases hr
      obtain ⟨_, h2, h3, _⟩ := renCells_ok (E := E) hd
      exact ⟨h2, h3 h.2⟩
    · cases hr
  all_goals
    cases hr
    trivial

theorem AB.ren_own {B B' : AB} (hr : B.ren ms = some B') (b : Bool) : B'.own b = B.own b ∧ ((∃ k n g, B' = .ro k n g) → B = B') := by
  cases B <;> simp only [AB.ren] at hr
  case cells ty cs =>
    split at hr
    · cases hr; exact ⟨rfl, fun ⟨k, n, g, h⟩ => by cases h⟩
    · cases hr
  all_goals
    cases hr
    exact ⟨rfl, fun _ => rfl⟩

end

/-- The first numbers stand, or are gone. -/
def prefB : Nat → List (Option Nat) → Nat → Bool
  | 0, _, _ => true
  | n + 1, some m :: ms, i => Nat.beq m i && prefB n ms (i + 1)
  | n + 1, none :: ms, i => prefB n ms (i + 1)
  | _ + 1, [], _ => false

theorem prefB_ok : ∀ {n i : Nat} {ms : List (Option Nat)}, prefB n ms i = true → n ≤ ms.length ∧ ∀ l, l < n → ∀ z, (ms.getD l none).getD z = i + l ∨ ms.getD l none = none
  | 0, i, ms, _ => ⟨Nat.zero_le _, fun l hl => by omega⟩
  | n + 1, i, [], h => by cases h
  | n + 1, i, none :: ms, h => by
    simp only [prefB] at h
    obtain ⟨h1, h2⟩ := prefB_ok h
    refine ⟨by simpa using h1, fun l hl z => ?_⟩
    cases l with
    | zero => exact .inr rfl
    | succ l =>
      have := h2 l (by omega) z
      simp only [List.getD_cons_succ]
      rcases this with this | this
      · exact .inl (by omega)
      · exact .inr this
  | n + 1, i, some m :: ms, h => by
    simp only [prefB, Bool.and_eq_true] at h
    obtain ⟨h1, h2⟩ := prefB_ok h.2
    refine ⟨by simpa using h1, fun l hl z => ?_⟩
    cases l with
    | zero => exact .inl (by simp [Nat.eq_of_beq_eq_true h.1])
    | succ l =>
      have := h2 l (by omega) z
      simp only [List.getD_cons_succ]
      rcases this with this | this
      · exact .inl (by omega)
      · exact .inr this

def memB (m : Nat) : List (Option Nat) → Bool
  | [] => false
  | none :: xs => memB m xs
  | some x :: xs => Nat.beq m x || memB m xs

def nodupB : List (Option Nat) → Bool
  | [] => true
  | none :: ms => nodupB ms
  | some m :: ms => !memB m ms && nodupB ms

theorem memB_of {m : Nat} : ∀ {ms : List (Option Nat)} {p : Nat}, ms[p]? = some (some m) → memB m ms = true
  | [], p, h => by simp at h
  | x :: xs, 0, h => by simp at h; subst h; simp [memB]
  | none :: xs, p + 1, h => by simp at h; exact memB_of (ms := xs) h
  | some x :: xs, p + 1, h => by simp at h; simp [memB, memB_of (ms := xs) h]

theorem nodupB_ok : ∀ {ms : List (Option Nat)}, nodupB ms = true → ∀ {p q m : Nat}, ms[p]? = some (some m) → ms[q]? = some (some m) → p = q
  | [], _, p, q, m, h, _ => by simp at h
  | none :: ms, h, p, q, m, hp, hq => by
    cases p with
    | zero => simp at hp
    | succ p => cases q with
      | zero => simp at hq
      | succ q => simp at hp hq; rw [nodupB_ok (ms := ms) h hp hq]
  | some x :: ms, h, p, q, m, hp, hq => by
    simp only [nodupB, Bool.and_eq_true, Bool.not_eq_true'] at h
    cases p with
    | zero => cases q with
      | zero => rfl
      | succ q => simp at hp hq; subst hp; rw [memB_of hq] at h; exact absurd h.1 (by simp)
    | succ p => cases q with
      | zero => simp at hp hq; subst hq; rw [memB_of hp] at h; exact absurd h.1 (by simp)
      | succ q => simp at hp hq; rw [nodupB_ok (ms := ms) h.2 hp hq]

theorem step_ren {n0 : Nat} {E : Env} {H H' : Heap} {w : World} {ms : List (Option Nat)} (h : HRep E H w) (hr : renH ms H ms = some H') (hp : prefB n0 ms 0 = true) (hd : nodupB ms = true) : Step n0 E H w (E.via ms) H' w ∧ H'.length = ms.length := by
  obtain ⟨h1, h2⟩ := renH_get hr
  obtain ⟨p1, p2⟩ := prefB_ok hp
  have get : ∀ {p : Nat} {B' : AB}, H'[p]? = some B' → B' = .dead ∨ ∃ m B, ms[p]? = some (some m) ∧ H[m]? = some B ∧ B.ren ms = some B' ∧ (ms.getD p none).getD p = m := by
    intro p B' hb
    rcases h2 p B' hb with ⟨_, g⟩ | ⟨m, B, g1, g2, g3⟩
    · exact .inl g
    · exact .inr ⟨m, B, g1, g2, g3, by rw [List.getD_eq_getElem?_getD, g1]; rfl⟩
  have him : ∀ b, Im (E.via ms) H' b → Im E H b := by
    rintro b ⟨p, B', hb, ho, rfl⟩
    rcases get hb with rfl | ⟨m, B, g0, g1, g2, e⟩
    · cases ho
    · refine ⟨m, B, g1, ?_, by simp only [Env.via, e]⟩
      rw [← (AB.ren_own g2 _).1]
      simp only [Env.via, e] at ho
      exact ho
  have ag : Env.Agree n0 E (E.via ms) := by
    have e : ∀ l, l < n0 → (ms.getD l none).getD l = l := fun l hl => by
      rcases p2 l hl l with h | h
      · omega
      · rw [h]; rfl
    exact ⟨fun l hl => by simp only [Env.via, e l hl], fun l hl => by simp only [Env.via, e l hl], fun l hl => by simp only [Env.via, e l hl], fun l hl => by simp only [Env.via, e l hl]⟩
  refine ⟨⟨ag, by omega, ⟨fun p B' hb => ?_, fun p B' hb => ?_, fun p p' B B' hb hb' ho ho' he => ?_, fun p k n g hb hn hi => ?_⟩, rfl, rfl, rfl, Nat.le_refl _, fun _ _ _ => rfl, fun b _ => him b⟩, h1⟩
  · rcases get hb with rfl | ⟨m, B, g0, g1, g2, e⟩
    · trivial
    · exact BRep.ren g2 e (h.rep _ B g1)
  · rcases get hb with rfl | ⟨m, B, g0, g1, g2, e⟩
    · trivial
    · rw [h1]; exact BOk.ren g2 (h.ok _ B g1)
  · rcases get hb with rfl | ⟨m, C, g0, g1, g2, e⟩
    · cases ho
    · rcases get hb' with rfl | ⟨m', C', k0, k1, k2, e'⟩
      · cases ho'
      · simp only [Env.via, e, e'] at ho ho' he
        have := h.inj _ _ C C' g1 k1 (by rw [← (AB.ren_own g2 _).1]; exact ho) (by rw [← (AB.ren_own k2 _).1]; exact ho') he
        subst this
        exact nodupB_ok hd g0 k0
  · rcases get hb with hb | ⟨m, C, g0, g1, g2, e⟩
    · cases hb
    · have := (AB.ren_own g2 true).2 ⟨k, n, g, rfl⟩
      subst this
      simp only [Env.via, e] at hn hi
      exact h.ro _ k n g g1 hn (him _ hi)

/-! ### Values and a heap, told in another way -/

/-- Whatever the memory is, these values and this heap can be told as some of those. -/
def Re (n0 : Nat) (fr : List AV) (H : Heap) (R : List AV → Heap → Prop) : Prop :=
  ∀ (E : Env) (w : World), HRep E H w → (∀ x ∈ fr, x.ref ≤ H.length ∧ x.ok E) → n0 ≤ H.length →
    ∃ (fr2 : List AV) (H2 : Heap) (E2 : Env), Step n0 E H w E2 H2 w ∧ fr2.map (AV.conc E2) = fr.map (AV.conc E) ∧ (∀ x ∈ fr2, x.ref ≤ H2.length ∧ x.ok E2) ∧ R fr2 H2

theorem Re.refl {n0 : Nat} {fr : List AV} {H : Heap} {R : List AV → Heap → Prop} (h : R fr H) : Re n0 fr H R :=
  fun E _ hr hf hn => ⟨fr, H, E, .refl hr hn, rfl, hf, h⟩

theorem Re.trans {n0 : Nat} {fr : List AV} {H : Heap} {R R' : List AV → Heap → Prop} (h : Re n0 fr H R) (hr : ∀ fr2 H2, R fr2 H2 → Re n0 fr2 H2 R') : Re n0 fr H R' := by
  intro E w h1 h2 h3
  obtain ⟨fr2, H2, E2, g1, g2, g3, g4⟩ := h E w h1 h2 h3
  obtain ⟨fr3, H3, E3, k1, k2, k3, k4⟩ := hr fr2 H2 g4 E2 w g1.rep g3 g1.len
  exact ⟨fr3, H3, E3, g1.trans k1 (Nat.le_refl _), k2.trans g2, k3, k4⟩

theorem Re.mono {n0 : Nat} {fr : List AV} {H : Heap} {R R' : List AV → Heap → Prop} (h : Re n0 fr H R) (hr : ∀ fr2 H2, R fr2 H2 → R' fr2 H2) : Re n0 fr H R' :=
  h.trans fun _ _ h2 => .refl (hr _ _ h2)

/-- Blocks by other numbers: where each comes from; or gone. -/
theorem Re.ren {n0 : Nat} {fr fr2 : List AV} {H H2 : Heap} {R : List AV → Heap → Prop} (ms : List (Option Nat)) (hf : renFr ms fr = some fr2) (hH : renH ms H ms = some H2) (hp : (prefB n0 ms 0 && nodupB ms) = true) (h : Re n0 fr2 H2 R) : Re n0 fr H R := by
  intro E w h1 h2 h3
  simp only [Bool.and_eq_true] at hp
  obtain ⟨hst, hlen⟩ := step_ren h1 hH hp.1 hp.2
  obtain ⟨f1, f2, f3⟩ := renFr_ok (E := E) hf
  obtain ⟨fr3, H3, E3, k1, k2, k3, k4⟩ := h (E.via ms) w hst.rep (fun x hx => ⟨by rw [hlen]; exact f2 x hx, f3 (fun x hx => (h2 x hx).2) x hx⟩) hst.len
  exact ⟨fr3, H3, E3, hst.trans k1 (Nat.le_refl _), k2.trans f1, k3, k4⟩

theorem HRep.cells_ok {E : Env} {H : Heap} {w : World} (h : HRep E H w) {l ty : Nat} {cs : List SV} (hl : H[l]? = some (.cells ty cs)) : refs cs ≤ H.length ∧ ∀ x ∈ cs, x.ok E := h.ok l _ hl

/-- A nil slice that is known, among the values, becomes a row of none. -/
theorem Re.nil {n0 : Nat} {fr : List AV} {H : Heap} {R : List AV → Heap → Prop} (i ty k : Nat) (g : Nat → List Value) (hk : 0 < k) (hi : fr[i]? = some (.c (.slice none 0 0))) (h : Re n0 (fr.set i (.e (.s (.sl H.length k 0 0 0)))) (H ++ [.row ty k 0 g]) R) : Re n0 fr H R := by
  intro E w h1 h2 h3
  have hst := push_nil h1 (t := ty) (k := k) (g := g) hk
  have hlt : i < fr.length := (List.getElem?_eq_some_iff.1 hi).1
  obtain ⟨fr3, H3, E3, k1, k2, k3, k4⟩ := h _ w hst.rep (fun x hx => by
    rcases List.mem_or_eq_of_mem_set hx with hx | rfl
    · exact ⟨Nat.le_trans (h2 x hx).1 (by simp), AV.ok_agree hst.agree (h2 x hx).1 (h2 x hx).2⟩
    · exact ⟨by simp [AV.ref, EV.ref, SV.ref], ok_s.2 ⟨fun _ => rfl, fun hh => by simp at hh⟩⟩) (by simp; omega)
  refine ⟨fr3, H3, E3, (hst.mono h3).trans k1 (Nat.le_refl _), ?_, k3, k4⟩
  rw [k2, List.map_set]
  apply List.ext_getElem?
  intro j
  rw [List.getElem?_set, List.getElem?_map, List.getElem?_map]
  by_cases hj : i = j
  · subst hj
    rw [if_pos rfl, if_pos (by simpa using hlt), hi]
    simp [AV.conc, EV.conc, SV.conc]
  · rw [if_neg hj]
    cases hx : fr[j]? with
    | none => rfl
    | some x => simp only [Option.map_some]; rw [AV.conc_agree hst.agree (h2 x (List.mem_of_getElem? hx)).1]

/-- A nil slice that is known, among a variable's cells, becomes a row of none. -/
theorem Re.nilCell {n0 : Nat} {fr : List AV} {H : Heap} {R : List AV → Heap → Prop} (l i ty k : Nat) {cty : Nat} {cs : List SV} (g : Nat → List Value) (hk : 0 < k) (hl : H[l]? = some (.cells cty cs)) (hi : cs[i]? = some (.c (.slice none 0 0)))
    (h : Re n0 fr (H.set l (.cells cty (cs.set i (.sl H.length k 0 0 0))) ++ [.row ty k 0 g]) R) : Re n0 fr H R := by
  intro E w h1 h2 h3
  have hst := push_nil h1 (t := ty) (k := k) (g := g) hk
  have hlt : l < H.length := lt_of_get hl
  have hl' : (H ++ [.row ty k 0 g])[l]? = some (.cells cty cs) := by rw [List.getElem?_append_left hlt]; exact hl
  have hrep := hst.rep.rep l _ hl'
  have hok := hst.rep.cells_ok hl'
  have hcs : (cs.set i (.sl H.length k 0 0 0)).map (SV.conc (E.push H.length 0 0 0 true)) = cs.map (SV.conc (E.push H.length 0 0 0 true)) := by
    rw [List.map_set]
    apply List.ext_getElem?
    intro j
    rw [List.getElem?_set]
    by_cases hj : i = j
    · subst hj
      have hlt2 : i < cs.length := (List.getElem?_eq_some_iff.1 hi).1
      have e2 := (List.getElem?_eq_some_iff.1 hi).2
      simp [hlt2, e2, SV.conc]
    · rw [if_neg hj]
  have hset := step_set (w' := w) (B := .cells cty (cs.set i (.sl H.length k 0 0 0))) hst.rep hl' rfl (by simp only [BRep] at hrep ⊢; rw [hcs]; exact hrep) (by
    refine ⟨refs_le.2 fun x hx => ?_, fun x hx => ?_⟩
    · rcases List.mem_or_eq_of_mem_set hx with hx | rfl
      · exact refs_le.1 hok.1 x hx
      · simp [SV.ref]
    · rcases List.mem_or_eq_of_mem_set hx with hx | rfl
      · exact hok.2 x hx
      · exact ⟨fun _ => rfl, fun hh => by simp at hh⟩) (fun _ _ _ => by simp) (fun _ _ => rfl) rfl rfl rfl rfl
  have hst2 := hst.trans hset (by simp)
  rw [List.set_append_left _ _ hlt] at hst2
  obtain ⟨fr3, H3, E3, k1, k2, k3, k4⟩ := h _ w hst2.rep (fun x hx => ⟨Nat.le_trans (h2 x hx).1 (by simp), AV.ok_agree hst.agree (h2 x hx).1 (h2 x hx).2⟩) (by simp; omega)
  refine ⟨fr3, H3, E3, (hst2.mono h3).trans k1 (Nat.le_refl _), ?_, k3, k4⟩
  rw [k2]
  exact List.map_congr_left fun x hx => AV.conc_agree hst.agree (h2 x hx).1

/-- A row is told by another function that says the same of its elements. -/
theorem Re.row {n0 : Nat} {fr : List AV} {H : Heap} {R : List AV → Heap → Prop} (l : Nat) {ty k n : Nat} {g : Nat → List Value} (g' : Nat → List Value) (hl : H[l]? = some (.row ty k n g)) (hg : ∀ j, j < n → g j = g' j)
    (h : Re n0 fr (H.set l (.row ty k n g')) R) : Re n0 fr H R := by
  intro E w h1 h2 h3
  have hlt : l < H.length := lt_of_get hl
  have hrow : RowR E w l ty k n g := h1.rep l _ hl
  have hrow' : RowR E w l ty k n g' := by
    refine ⟨hrow.pos, hrow.nil, hrow.cap, fun hn => ?_, fun i hi => by rw [← hg i hi]; exact hrow.len i hi, fun i hi => by rw [← hg i hi]; exact hrow.one i hi⟩
    obtain ⟨vs, g1, g2, g3⟩ := hrow.mem hn
    exact ⟨vs, g1, g2, fun i hi j hj => by rw [← hg i hi]; exact g3 i hi j hj⟩
  have get : ∀ {l' : Nat} {C : AB}, (H.set l (.row ty k n g'))[l']? = some C → (l' = l ∧ C = .row ty k n g') ∨ H[l']? = some C := by
    intro l' C hc
    rcases get_set hc with ⟨_, h8⟩ | ⟨h7, h8, _⟩
    · exact .inr h8
    · exact .inl ⟨h7, h8.symm⟩
  have get2 : ∀ {l' : Nat} {C : AB}, (H.set l (.row ty k n g'))[l']? = some C → ∃ C0, H[l']? = some C0 ∧ (∀ b, C0.own b = C.own b) ∧ (∀ k n g, C = .ro k n g → C0 = C) := by
    intro l' C hc
    rcases get hc with ⟨rfl, rfl⟩ | h8
    · exact ⟨_, hl, fun _ => rfl, fun _ _ _ h => by cases h⟩
    · exact ⟨_, h8, fun _ => rfl, fun _ _ _ _ => rfl⟩
  have him : ∀ b, Im E (H.set l (.row ty k n g')) b → Im E H b := by
    rintro b ⟨l', C, hc, ho, rfl⟩
    obtain ⟨C0, g1, g2, _⟩ := get2 hc
    exact ⟨l', C0, g1, by rw [g2]; exact ho, rfl⟩
  have hst : Step n0 E H w E (H.set l (.row ty k n g')) w := by
    refine ⟨.refl _ _, by simpa using h3, ⟨fun l' C hc => ?_, fun l' C hc => ?_, fun l1 l2 C1 C2 hc1 hc2 ho1 ho2 he => ?_, fun l' k' n' g'' hc hn hi => ?_⟩, rfl, rfl, rfl, Nat.le_refl _, fun _ _ _ => rfl, fun b _ => him b⟩
    · rcases get hc with ⟨rfl, rfl⟩ | h8
      · exact hrow'
      · exact h1.rep l' C h8
    · rw [List.length_set]
      rcases get hc with ⟨rfl, rfl⟩ | h8
      · trivial
      · exact h1.ok l' C h8
    · obtain ⟨D1, g1, g2, _⟩ := get2 hc1
      obtain ⟨D2, k1, k2, _⟩ := get2 hc2
      exact h1.inj l1 l2 D1 D2 g1 k1 (by rw [g2]; exact ho1) (by rw [k2]; exact ho2) he
    · obtain ⟨D, g1, _, g3⟩ := get2 hc
      have := g3 _ _ _ rfl
      subst this
      exact h1.ro l' k' n' g'' g1 hn (him _ hi)
  obtain ⟨fr3, H3, E3, k1, k2, k3, k4⟩ := h E w hst.rep (fun x hx => by rw [List.length_set]; exact h2 x hx) hst.len
  exact ⟨fr3, H3, E3, hst.trans k1 (Nat.le_refl _), k2, k3, k4⟩

end Go.Proofs.Ythckkoledhjmeaa.Ev

/-
  The abstract evaluator: loops, told by the slots that are read later; what is shown of a function in a heap of its own, in whatever heap.
-/
namespace Go.Proofs.Ythckkoledhjmeaa.Ev
open Go

/-! ### Frames by the slots that are read later -/

def posL (i : Nat) : List Nat → Option Nat
  | [] => none
  | j :: js => match Nat.beq i j with
    | true => some 0
    | false => (posL i js).map (· + 1)

def slim (live : List Nat) (fr : List AV) : List AV := live.map fun i => fr.getD i undefA

def fat (live : List Nat) (vs : Nat → Value) (xs : List AV) : Nat → Nat → List AV
  | 0, _ => []
  | n + 1, i => (match posL i live with | some p => xs.getD p undefA | none => .d (vs i)) :: fat live vs xs n (i + 1)

theorem posL_get : ∀ {live : List Nat} {i p : Nat}, posL i live = some p → live[p]? = some i
  | [], i, p, h => by cases h
  | j :: js, i, p, h => by
    unfold posL at h
    split at h
    · rename_i hb; cases h; rw [Nat.eq_of_beq_eq_true hb]; rfl
    · cases hp : posL i js with
      | none => rw [hp] at h; cases h
      | some q => rw [hp] at h; cases h; simpa using posL_get hp

theorem fat_map {E : Env} {live : List Nat} {vs : Nat → Value} {xs : List AV} {fr : List AV} (h : ∀ i, i < fr.length → (match posL i live with | some p => xs.getD p undefA | none => .d (vs i)).conc E = (fr.getD i undefA).conc E) :
    (fat live vs xs fr.length 0).map (AV.conc E) = fr.map (AV.conc E) := by
  have key : ∀ (n i : Nat), i + n = fr.length → (fat live vs xs n i).map (AV.conc E) = (fr.drop i).map (AV.conc E) := by
    intro n
    induction n with
    | zero => intro i hi; rw [List.drop_of_length_le (by omega)]; rfl
    | succ n ih =>
      intro i hi
      have hlt : i < fr.length := by omega
      rw [List.drop_eq_getElem_cons hlt, List.map_cons, ← ih (i + 1) (by omega)]
      simp only [fat, List.map_cons]
      rw [h i hlt]
      simp [hlt]
  simpa using key fr.length 0 (by omega)

theorem fat_mem {live : List Nat} {vs : Nat → Value} {xs : List AV} {p : AV → Prop} (hx : ∀ x ∈ xs, p x) (hu : p undefA) (hd : ∀ v, p (.d v)) : ∀ (n i : Nat), ∀ x ∈ fat live vs xs n i, p x
  | 0, i, x, h => by simp [fat] at h
  | n + 1, i, x, h => by
    simp only [fat, List.mem_cons] at h
    rcases h with h | h
    · subst h
      split
      · rename_i q _
        rw [List.getD_eq_getElem?_getD]
        cases hq : xs[q]? with
        | none => exact hu
        | some y => exact hx y (List.mem_of_getElem? hq)
      · exact hd _
    · exact fat_mem hx hu hd n (i + 1) x h

theorem slim_mem {live : List Nat} {fr : List AV} {p : AV → Prop} (hx : ∀ x ∈ fr, p x) (hu : p undefA) : ∀ x ∈ slim live fr, p x := by
  intro x h
  obtain ⟨i, _, rfl⟩ := List.mem_map.1 h
  rw [List.getD_eq_getElem?_getD]
  cases hq : fr[i]? with
  | none => exact hu
  | some y => exact hx y (List.mem_of_getElem? hq)

/-- A frame is told by its slots that are read later. -/
theorem FRep.slim {E : Env} {n : Nat} {fr : List AV} {a : Act} (h : FRep E n fr a) (live : List Nat) : ∃ vs, FRep E n (fat live vs (Ev.slim live fr) fr.length 0) a := by
  refine ⟨fun i => (fr.getD i undefA).conc E, ?_, fat_mem (slim_mem h.sc (Nat.zero_le _)) (Nat.zero_le _) (fun _ => Nat.zero_le _) _ _, fat_mem (slim_mem h.ok undef_ok) undef_ok (fun _ => ok_s.2 trivial) _ _, h.defers⟩
  rw [h.tmps, fat_map fun i hi => ?_]
  split
  · rename_i p hp
    have := posL_get hp
    simp only [Ev.slim]
    rw [List.getD_eq_getElem?_getD, List.getElem?_map, this]
    rfl
  · rfl

theorem FRep.fat {E E2 : Env} {n n2 N : Nat} {xs ys : List AV} {live : List Nat} {vs : Nat → Value} {a : Act} (h : FRep E n (Ev.fat live vs xs N 0) a) (he : ys.map (AV.conc E2) = xs.map (AV.conc E)) (hy : ∀ x ∈ ys, x.ref ≤ n2 ∧ x.ok E2) : FRep E2 n2 (Ev.fat live vs ys N 0) a := by
  refine ⟨?_, fat_mem (fun x hx => (hy x hx).1) (Nat.zero_le _) (fun _ => Nat.zero_le _) _ _, fat_mem (fun x hx => (hy x hx).2) undef_ok (fun _ => ok_s.2 trivial) _ _, h.defers⟩
  rw [h.tmps]
  have key : ∀ (n i : Nat), (Ev.fat live vs ys n i).map (AV.conc E2) = (Ev.fat live vs xs n i).map (AV.conc E) := by
    intro n
    induction n with
    | zero => intro i; rfl
    | succ n ih =>
      intro i
      simp only [Ev.fat, List.map_cons, ih]
      congr 1
      split
      · rename_i p _
        have := congrArg (·[p]?) he
        simp only [List.getElem?_map] at this
        rw [List.getD_eq_getElem?_getD, List.getD_eq_getElem?_getD]
        cases h1 : ys[p]? <;> cases h2 : xs[p]? <;> simp [h1, h2] at this ⊢
        · rfl
        · exact this
      · rfl
  rw [key]

/-- Where a round ends. -/
def endK (live : List Nat) (N : Nat) (e : Exit) (σ' : St) : T (Exit × List AV × Heap) :=
  match Nat.beq σ'.fr.length N with
  | true => .ret (e, slim live σ'.fr, σ'.H)
  | false => .fail

/-- A round. -/
def bodyT (P : Program) (l : List (Nat × Ent)) (m : Nat) (ord : Nat → Ct) (n0 : Nat) (c : Code) (live : List Nat) (N : Nat) (xs : List AV) (H : Heap) (vs : Nat → Value) : T (Exit × List AV × Heap) :=
  codeT P (callT P (entL l) m) ord n0 0 c ⟨fat live vs xs N 0, H⟩ (endK live N)

/-- A loop. -/
theorem code_loop {P : Program} (hP : Fine P) {l : List (Nat × Ent)} (hl : EntsOk P l) (m : Nat) {ord : Nat → Ct} {n0 N : Nat} {live : List Nat} {c : Code} (hB : codeB ord c = true) {Q : Exit → St → Prop}
    (I : List AV → Heap → Prop) (μ : List AV → Heap → Nat) (hn : ∀ xs H, I xs H → n0 ≤ H.length)
    (hI : ∀ xs H vs, I xs H → (bodyT P l m ord n0 c live N xs H vs).sat P fun x => match x.1 with
      | .normal => Re n0 x.2.1 x.2.2 fun xs2 H2 => I xs2 H2 ∧ μ xs2 H2 < μ xs H
      | e => ∀ vs, Q e ⟨fat live vs x.2.1 N 0, x.2.2⟩) {σ : St} (hN : σ.fr.length = N) (h0 : Re n0 (slim live σ.fr) σ.H I) : CodeA P n0 (.loop c) σ Q := by
  intro E w a hr hf hn0
  obtain ⟨vs0, hf0⟩ := hf.slim live
  obtain ⟨xs1, H1, E1, g1, g2, g3, g4⟩ := h0 E w hr (slim_mem (fun x hx => ⟨hf.sc x hx, hf.ok x hx⟩) ⟨Nat.zero_le _, undef_ok⟩) hn0
  rw [hN] at hf0
  have hf1 := hf0.fat g2 g3
  have key : ∀ (n : Nat) (xs : List AV) (H : Heap) (vs : Nat → Value) (E1 : Env) (a : Act) (w : World), μ xs H < n → HRep E1 H w → FRep E1 H.length (fat live vs xs N 0) a → (∀ x ∈ xs, x.ref ≤ H.length ∧ x.ok E1) → I xs H → Code.rounds P c (CodeQ n0 E1 H w Q) n a w := by
    intro n
    induction n with
    | zero => intro xs H vs E1 a w h; omega
    | succ n ih =>
      intro xs H vs E1 a w hμ hr hf hxs hI1
      rw [rounds_succ]
      refine wp_mono (code_sat (Q0 := fun x : Exit × List AV × Heap => match x.1 with
        | .normal => Re n0 x.2.1 x.2.2 fun xs2 H2 => I xs2 H2 ∧ μ xs2 H2 < μ xs H
        | e => ∀ vs, Q e ⟨fat live vs x.2.1 N 0, x.2.2⟩) hP (call_sat hP hl.ent m) c E1 ⟨fat live vs xs N 0, H⟩ a w _ hB hr hf (hn xs H hI1) (hI xs H vs hI1)) ?_
      rintro e a' w' ⟨σ', E', h1, h2, h3⟩
      unfold endK at h3
      split at h3
      · rename_i hb
        have hlen := Nat.eq_of_beq_eq_true hb
        obtain ⟨vs', hf'⟩ := h2.slim live
        rw [hlen] at hf'
        cases e with
        | normal =>
          obtain ⟨xs2, H2, E2, k1, k2, k3, k4, k5⟩ := h3 E' w' h1.rep (slim_mem (fun x hx => ⟨h2.sc x hx, h2.ok x hx⟩) ⟨Nat.zero_le _, undef_ok⟩) h1.len
          exact rounds_mono n (fun _ _ _ hq => hq.trans (h1.trans k1 (Nat.le_refl _))) (ih xs2 H2 vs' E2 a' w' (by omega) k1.rep (hf'.fat k2 k3) k3 k4)
        | exit id => exact ⟨⟨fat live vs' (slim live σ'.fr) N 0, σ'.H⟩, E', h1, hf', h3 vs'⟩
        | goto l => exact ⟨⟨fat live vs' (slim live σ'.fr) N 0, σ'.H⟩, E', h1, hf', h3 vs'⟩
        | ret => exact ⟨⟨fat live vs' (slim live σ'.fr) N 0, σ'.H⟩, E', h1, hf', h3 vs'⟩
        | panic ch => exact ⟨⟨fat live vs' (slim live σ'.fr) N 0, σ'.H⟩, E', h1, hf', h3 vs'⟩
        | outgrown => exact ⟨⟨fat live vs' (slim live σ'.fr) N 0, σ'.H⟩, E', h1, hf', h3 vs'⟩
      · exact h3.elim
  refine wp_mono (wp_loop_rounds (μ xs1 H1 + 1) (key (μ xs1 H1 + 1) xs1 H1 vs0 E1 a w (by omega) g1.rep hf1 g3 g4)) ?_
  rintro e a' w' hq
  exact CodeQ.trans g1 hq

/-- What a call hands back, told in another way. -/
theorem CallsA.re {P : Program} {f : Nat} {args : List AV} {H : Heap} {Q : AV → Heap → Prop} (h : CallsA P f args H fun r H' => Re H.length [r] H' fun fr H2 => ∃ r2, fr = [r2] ∧ Q r2 H2) : CallsA P f args H Q := by
  intro E w hr ha
  refine (h E w hr ha).mono ?_
  rintro e w' ⟨r, H', E', rfl, h1, h2, h3, h4⟩
  obtain ⟨fr2, H2, E2, g1, g2, g3, r2, rfl, g4⟩ := h4 E' w' h1.rep (by simp; exact ⟨h2, h3⟩) h1.len
  simp only [List.map_cons, List.map_nil, List.cons.injEq, and_true] at g2
  exact ⟨r2, H2, E2, by rw [g2], h1.trans g1 (Nat.le_refl _), (g3 r2 (by simp)).1, (g3 r2 (by simp)).2, g4⟩

/-- Arguments that stand for the same values. -/
theorem CallsA.same {P : Program} {f : Nat} {args args' : List AV} {H : Heap} {Q : AV → Heap → Prop} (hc : ∀ E, args.map (AV.conc E) = args'.map (AV.conc E)) (hs : ∀ E n, (∀ x ∈ args', x.ref ≤ n ∧ x.ok E) → ∀ x ∈ args, x.ref ≤ n ∧ x.ok E) (h : CallsA P f args H Q) : CallsA P f args' H Q := by
  intro E w hr ha
  rw [← hc E]
  exact h E w hr (hs E _ ha)

end Go.Proofs.Ythckkoledhjmeaa.Ev

/-
  The abstract evaluator: what is shown of a function in a heap of its own holds in whatever heap.
-/
namespace Go.Proofs.Ythckkoledhjmeaa.Ev
open Go

/-! ### Numbers turned by a function -/

def SV.by (f : Nat → Nat) : SV → SV
  | .c v => .c v
  | .d v => .d v
  | .ptr l o => .ptr (f l) o
  | .rp l k i o => .rp (f l) k i o
  | .sl l k i n z => .sl (f l) k i n z
  | .mp l => .mp (f l)
  | .fn g caps => .fn g (caps.map fun p => (f p.1, p.2))

def EV.by (f : Nat → Nat) : EV → EV
  | .s x => .s (x.by f)
  | .agg cs => .agg (cs.map (SV.by f))

def AV.by (f : Nat → Nat) : AV → AV
  | .e x => .e (x.by f)
  | .tup vs => .tup (vs.map (EV.by f))

def AB.by (f : Nat → Nat) : AB → AB
  | .cells ty cs => .cells ty (cs.map (SV.by f))
  | B => B

/-- The same memory by other numbers. -/
structure Same (f : Nat → Nat) (n n' : Nat) (E E' : Env) : Prop where
  lt : ∀ l, l < n → f l < n'
  blk : ∀ l, l < n → E'.blk (f l) = E.blk l
  base : ∀ l, l < n → E'.base (f l) = E.base l
  cap : ∀ l, l < n → E'.cap (f l) = E.cap l
  nil : ∀ l, l < n → E'.nil (f l) = E.nil l

section
variable {f : Nat → Nat} {n n' : Nat} {E E' : Env}

theorem caps_by (h : Same f n n' E E') : ∀ {caps : List (Nat × Nat)}, caps.foldr (fun p n => max (p.1 + 1) n) 0 ≤ n → (caps.map fun p => (f p.1, p.2)).foldr (fun p n => max (p.1 + 1) n) 0 ≤ n' ∧
    (caps.map fun p => (f p.1, p.2)).map (fun p => Value.pointer (some ⟨E'.blk p.1, p.2, none⟩)) = caps.map (fun p => Value.pointer (some ⟨E.blk p.1, p.2, none⟩))
  | [], _ => ⟨Nat.zero_le _, rfl⟩
  | p :: r, hn => by
    simp only [List.foldr_cons] at hn
    obtain ⟨h1, h2⟩ := caps_by h (caps := r) (by omega)
    have := h.lt p.1 (by omega)
    refine ⟨by simp only [List.map_cons, List.foldr_cons]; omega, ?_⟩
    simp only [List.map_cons] at h2 ⊢
    rw [h2, h.blk p.1 (by omega)]

theorem SV.by_ok (h : Same f n n' E E') {x : SV} (hx : x.ref ≤ n) : (x.by f).conc E' = x.conc E ∧ (x.by f).ref ≤ n' ∧ (x.ok E → (x.by f).ok E') := by
  cases x <;> simp only [SV.ref] at hx <;> simp only [SV.by]
  case c v => exact ⟨rfl, Nat.zero_le _, fun _ => trivial⟩
  case d v => exact ⟨rfl, Nat.zero_le _, fun _ => trivial⟩
  case fn g caps =>
    obtain ⟨h1, h2⟩ := caps_by h hx
    exact ⟨by simp only [SV.conc, h2], h1, fun _ => trivial⟩
  case ptr l o => exact ⟨by simp only [SV.conc, h.blk l hx], h.lt l hx, fun _ => trivial⟩
  case rp l k i o => exact ⟨by simp only [SV.conc, h.blk l hx, h.base l hx], h.lt l hx, fun _ => trivial⟩
  case sl l k i m z => exact ⟨by simp only [SV.conc, h.blk l hx, h.base l hx, h.cap l hx, h.nil l hx], h.lt l hx, fun ho => by simp only [SV.ok, h.nil l hx, h.cap l hx] at ho ⊢; exact ho⟩
  case mp l => exact ⟨by simp only [SV.conc, h.blk l hx], h.lt l hx, fun _ => trivial⟩

theorem cells_by (h : Same f n n' E E') : ∀ {cs : List SV}, refs cs ≤ n → (cs.map (SV.by f)).map (SV.conc E') = cs.map (SV.conc E) ∧ refs (cs.map (SV.by f)) ≤ n' ∧ ((∀ x ∈ cs, x.ok E) → ∀ x ∈ cs.map (SV.by f), x.ok E')
  | [], _ => ⟨rfl, Nat.zero_le _, fun _ => by simp⟩
  | x :: cs, hn => by
    rw [refs_le] at hn
    simp only [List.mem_cons, forall_eq_or_imp] at hn
    obtain ⟨h1, h2, h3⟩ := SV.by_ok h hn.1
    obtain ⟨g1, g2, g3⟩ := cells_by h (cs := cs) (refs_le.2 hn.2)
    refine ⟨by simp only [List.map_cons, h1] at g1 ⊢; rw [g1], refs_le.2 ?_, fun ho => ?_⟩
    · simp only [List.map_cons, List.mem_cons, forall_eq_or_imp]
      exact ⟨h2, refs_le.1 g2⟩
    · simp only [List.map_cons, List.mem_cons, forall_eq_or_imp] at ho ⊢
      exact ⟨h3 ho.1, g3 ho.2⟩

theorem EV.by_ok (h : Same f n n' E E') {x : EV} (hx : x.ref ≤ n) : (x.by f).conc E' = x.conc E ∧ (x.by f).ref ≤ n' ∧ ((∀ z ∈ x.svs, z.ok E) → ∀ z ∈ (x.by f).svs, z.ok E') := by
  cases x with
  | s x =>
    obtain ⟨h1, h2, h3⟩ := SV.by_ok h hx
    exact ⟨h1, h2, fun ho => by simpa [EV.svs, EV.by] using h3 (by simpa [EV.svs] using ho)⟩
  | agg cs =>
    obtain ⟨h1, h2, h3⟩ := cells_by h hx
    exact ⟨by simp only [EV.by, EV.conc, h1], h2, h3⟩

theorem evs_by (h : Same f n n' E E') : ∀ {vs : List EV}, vs.foldr (fun x n => max x.ref n) 0 ≤ n → (vs.map (EV.by f)).map (EV.conc E') = vs.map (EV.conc E) ∧ (vs.map (EV.by f)).foldr (fun x n => max x.ref n) 0 ≤ n' ∧
    ((∀ z ∈ vs.flatMap EV.svs, z.ok E) → ∀ z ∈ (vs.map (EV.by f)).flatMap EV.svs, z.ok E')
  | [], _ => ⟨rfl, Nat.zero_le _, fun _ => by simp⟩
  | x :: vs, hn => by
    simp only [List.foldr_cons] at hn
    obtain ⟨h1, h2, h3⟩ := EV.by_ok h (x := x) (by omega)
    obtain ⟨g1, g2, g3⟩ := evs_by h (vs := vs) (by omega)
    refine ⟨by simp only [List.map_cons, h1] at g1 ⊢; rw [g1], by simp only [List.map_cons, List.foldr_cons]; omega, fun ho => ?_⟩
    simp only [List.map_cons, List.flatMap_cons, List.mem_append] at ho ⊢
    intro z hz
    rcases hz with hz | hz
    · exact h3 (fun z hz => ho z (.inl hz)) z hz
    · exact g3 (fun z hz => ho z (.inr hz)) z hz

theorem AV.by_ok (h : Same f n n' E E') {x : AV} (hx : x.ref ≤ n) : (x.by f).conc E' = x.conc E ∧ (x.by f).ref ≤ n' ∧ (x.ok E → (x.by f).ok E') := by
  cases x with
  | e x => exact EV.by_ok h hx
  | tup vs =>
    obtain ⟨h1, h2, h3⟩ := evs_by h hx
    exact ⟨by simp only [AV.by, AV.conc, h1], h2, h3⟩

theorem BRep.by (h : Same f n n' E E') {w : World} {l : Nat} {B : AB} (hl : l < n) (hok : BOk E n B) (hB : BRep E w l B) : BRep E' w (f l) (B.by f) := by
  have h1 := h.blk l hl
  have h2 := h.base l hl
  have h3 := h.cap l hl
  have h4 := h.nil l hl
  cases B with
  | cells ty cs => simp only [AB.by, BRep] at hB ⊢; rw [(cells_by h hok.1).1, h1]; exact hB
  | row ty k m g => exact ⟨hB.pos, by rw [h4]; exact hB.nil, by rw [h4, h3]; exact hB.cap, by rw [h4, h1, h2, h3]; exact hB.mem, hB.len, hB.one⟩
  | lit ty k ch =>
    have hB : RowR E w l ty k ch.length (fun j => ch.getD j []) := hB
    exact RowR.mk hB.pos (by rw [h4]; exact hB.nil) (by rw [h4, h3]; exact hB.cap) (by rw [h4, h1, h2, h3]; exact hB.mem) hB.len hB.one
  | ro k m g => exact ⟨hB.pos, by rw [h4]; exact hB.nil, by rw [h4, h3]; exact hB.cap, by rw [h4, h1, h2]; exact hB.mem, hB.len, hB.one⟩
  | pm es => simp only [AB.by, BRep] at hB ⊢; rw [h1]; exact hB
  | dead => trivial

theorem BOk.by (h : Same f n n' E E') {B : AB} (hok : BOk E n B) : BOk E' n' (B.by f) := by
  cases B <;> try trivial
  obtain ⟨_, h2, h3⟩ := cells_by h hok.1
  exact ⟨h2, h3 hok.2⟩

theorem AB.by_own (B : AB) (b : Bool) : (B.by f).own b = B.own b := by cases B <;> rfl

end

/-! ### The caller's heap behind the call -/

def back (ls : List Nat) (N p : Nat) : Nat :=
  match ls[p]? with
  | some l => l
  | none => N + (p - ls.length)

def backSet (f : Nat → Nat) : List Nat → Heap → Heap → Heap
  | l :: ls, B :: H0, H => backSet f ls H0 (H.set l (B.by f))
  | _, _, H => H

def backH (ls : List Nat) (H H0 : Heap) : Heap := backSet (back ls H.length) ls H0 H ++ (H0.drop ls.length).map (AB.by (back ls H.length))

def noRo : Heap → Bool
  | [] => true
  | .ro .. :: _ => false
  | _ :: H => noRo H

theorem noRo_get : ∀ {H : Heap} {p k n : Nat} {g : Nat → List Value}, noRo H = true → H[p]? ≠ some (.ro k n g)
  | [], p, _, _, _, _ => by simp
  | B :: H, 0, k, n, g, h => by
    intro he
    simp at he
    subst he
    cases h
  | B :: H, p + 1, k, n, g, h => by
    intro he
    simp at he
    cases B <;> first | exact noRo_get (H := H) h he | cases h

theorem backSet_len (f : Nat → Nat) : ∀ (ls : List Nat) (H0 H : Heap), (backSet f ls H0 H).length = H.length
  | [], _, _ => by simp [backSet]
  | _ :: _, [], _ => by simp [backSet]
  | l :: ls, B :: H0, H => by simp [backSet, backSet_len f ls]

theorem backSet_out (f : Nat → Nat) : ∀ (ls : List Nat) (H0 H : Heap) (x : Nat), x ∉ ls → (backSet f ls H0 H)[x]? = H[x]?
  | [], _, _, _, _ => by simp [backSet]
  | _ :: _, [], _, _, _ => by simp [backSet]
  | l :: ls, B :: H0, H, x, hx => by
    simp only [List.mem_cons, not_or] at hx
    rw [backSet, backSet_out f ls H0 _ x hx.2, List.getElem?_set_ne (Ne.symm hx.1)]

theorem backSet_in (f : Nat → Nat) : ∀ (ls : List Nat) (H0 H : Heap) (p l : Nat) (B : AB), ls.Nodup → ls[p]? = some l → H0[p]? = some B → l < H.length → (backSet f ls H0 H)[l]? = some (B.by f)
  | [], _, _, p, l, B, _, h, _, _ => by simp at h
  | _ :: _, [], _, p, l, B, _, _, h, _ => by simp at h
  | l' :: ls, B' :: H0, H, 0, l, B, hn, h1, h2, h3 => by
    simp at h1 h2
    subst h1 h2
    rw [backSet, backSet_out f ls H0 _ _ (List.nodup_cons.1 hn).1, List.getElem?_set_self h3]
  | l' :: ls, B' :: H0, H, p + 1, l, B, hn, h1, h2, h3 => by
    simp at h1 h2
    rw [backSet]
    exact backSet_in f ls H0 _ p l B (List.nodup_cons.1 hn).2 h1 h2 (by simpa using h3)

theorem nodupB_list : ∀ {ls : List Nat}, nodupB (ls.map some) = true → ls.Nodup
  | [], _ => List.nodup_nil
  | l :: ls, h => by
    simp only [List.map_cons, nodupB, Bool.and_eq_true, Bool.not_eq_true'] at h
    refine List.nodup_cons.2 ⟨fun hm => ?_, nodupB_list h.2⟩
    obtain ⟨p, hp, he⟩ := List.mem_iff_getElem.1 hm
    have : memB l (ls.map some) = true := memB_of (p := p) (by simp [hp, he])
    rw [this] at h
    exact absurd h.1 (by simp)

/-- A contract in a heap of its own, lifted. -/
theorem CallsA.lift {P : Program} {f : Nat} {args args0 : List AV} {H H0 : Heap} (ls : List Nat) (hr : renFr (ls.map some) args = some args0) (hH : renH (ls.map some) H (ls.map some) = some H0) (hd : nodupB (ls.map some) = true)
    {Q0 Q : AV → Heap → Prop} (h : CallsA P f args0 H0 Q0) (hro : ∀ r H', Q0 r H' → noRo H' = true) (hq : ∀ r H', Q0 r H' → Q (r.by (back ls H.length)) (backH ls H H')) : CallsA P f args H Q := by
  intro E w hrep hargs
  obtain ⟨hst0, hlen0⟩ := step_ren (n0 := 0) hrep hH rfl hd
  obtain ⟨f1, f2, f3⟩ := renFr_ok (E := E) hr
  have hls : ∀ (p l : Nat), ls[p]? = some l → l < H.length := by
    intro p l hp
    obtain ⟨_, h2⟩ := renH_get hH
    have hp0 : p < H0.length := by rw [hlen0]; simpa using (List.getElem?_eq_some_iff.1 hp).1
    rcases h2 p _ (List.getElem?_eq_getElem hp0) with ⟨g, _⟩ | ⟨m, B, g1, g2, _⟩
    · simp [hp] at g
    · simp [hp] at g1
      subst g1
      exact lt_of_get g2
  have hvia : ∀ (p l : Nat), ls[p]? = some l → ((((ls.map some).getD p none).getD p : Nat)) = l := by
    intro p l hp
    rw [List.getD_eq_getElem?_getD, List.getElem?_map, hp]
    rfl
  have hnd := nodupB_list hd
  refine (show Calls P f (args.map (AV.conc E)).toArray w _ from by
    rw [← f1]
    exact h (E.via (ls.map some)) w hst0.rep fun x hx => ⟨by rw [hlen0]; exact f2 x hx, f3 (fun x hx => (hargs x hx).2) x hx⟩).mono ?_
  rintro e w' ⟨r, H0', E0', rfl, hst, g2, g3, g4⟩
  -- what the new numbers stand for
  have hlenls : ls.length ≤ H0'.length := by have := hst.len; rw [hlen0] at this; simpa using this
  let fb := back ls H.length
  let E' : Env := { blk := fun x => if x < H.length then E.blk x else E0'.blk (ls.length + (x - H.length)), base := fun x => if x < H.length then E.base x else E0'.base (ls.length + (x - H.length)), cap := fun x => if x < H.length then E.cap x else E0'.cap (ls.length + (x - H.length)), nil := fun x => if x < H.length then E.nil x else E0'.nil (ls.length + (x - H.length)) }
  have hfin : ∀ (p l : Nat), ls[p]? = some l → fb p = l := fun p l hp => by simp only [fb, back, hp]
  have hfout : ∀ (p : Nat), ls.length ≤ p → fb p = H.length + (p - ls.length) := fun p hp => by simp only [fb, back, List.getElem?_eq_none hp]
  have hlenB : (backH ls H H0').length = H.length + (H0'.length - ls.length) := by simp [backH, backSet_len]
  have hsame : Same fb H0'.length (backH ls H H0').length E0' E' := by
    have ag := hst.agree
    rw [hlen0] at ag
    simp only [List.length_map] at ag
    have eq : ∀ p, p < H0'.length → (∃ l, ls[p]? = some l ∧ l < H.length ∧ fb p = l) ∨ (ls.length ≤ p ∧ ¬ fb p < H.length ∧ ls.length + (fb p - H.length) = p) := by
      intro p hp
      by_cases hpl : p < ls.length
      · have := List.getElem?_eq_getElem hpl
        exact .inl ⟨_, this, hls p _ this, hfin p _ this⟩
      · have := hfout p (by omega)
        exact .inr ⟨by omega, by omega, by omega⟩
    refine ⟨fun p hp => ?_, fun p hp => ?_, fun p hp => ?_, fun p hp => ?_, fun p hp => ?_⟩ <;> rcases eq p hp with ⟨l, h1, h2, h3⟩ | ⟨h1, h2, h3⟩
    · omega
    · have := hfout p h1; omega
    · simp only [E', h3, if_pos h2]
      rw [ag.blk p (List.getElem?_eq_some_iff.1 h1).1]
      simp only [Env.via, hvia p l h1]
    · simp only [E', if_neg h2, h3]
    · simp only [E', h3, if_pos h2]
      rw [ag.base p (List.getElem?_eq_some_iff.1 h1).1]
      simp only [Env.via, hvia p l h1]
    · simp only [E', if_neg h2, h3]
    · simp only [E', h3, if_pos h2]
      rw [ag.cap p (List.getElem?_eq_some_iff.1 h1).1]
      simp only [Env.via, hvia p l h1]
    · simp only [E', if_neg h2, h3]
    · simp only [E', h3, if_pos h2]
      rw [ag.nil p (List.getElem?_eq_some_iff.1 h1).1]
      simp only [Env.via, hvia p l h1]
    · simp only [E', if_neg h2, h3]
  have hag : Env.Agree H.length E E' := ⟨fun l hl => if_pos hl, fun l hl => if_pos hl, fun l hl => if_pos hl, fun l hl => if_pos hl⟩
  -- the blocks behind the call
  have get : ∀ {x : Nat} {C : AB}, (backH ls H H0')[x]? = some C → (x ∉ ls ∧ x < H.length ∧ H[x]? = some C) ∨ (∃ p B, H0'[p]? = some B ∧ fb p = x ∧ C = B.by fb) := by
    intro x C hx
    unfold backH at hx
    by_cases hxl : x < H.length
    · rw [List.getElem?_append_left (by rw [backSet_len]; exact hxl)] at hx
      by_cases hm : x ∈ ls
      · obtain ⟨p, hp, he⟩ := List.mem_iff_getElem.1 hm
        have hp' : ls[p]? = some x := by rw [List.getElem?_eq_getElem hp, he]
        have hB := List.getElem?_eq_getElem (show p < H0'.length by omega)
        rw [backSet_in _ ls H0' H p x _ hnd hp' hB hxl] at hx
        exact .inr ⟨p, _, hB, hfin p x hp', by simpa using hx.symm⟩
      · rw [backSet_out _ ls H0' H x hm] at hx
        exact .inl ⟨hm, hxl, hx⟩
    · rw [List.getElem?_append_right (by rw [backSet_len]; omega), backSet_len, List.getElem?_map, List.getElem?_drop] at hx
      obtain ⟨B, hB, he⟩ := Option.map_eq_some_iff.1 hx
      exact .inr ⟨_, B, hB, by rw [hfout _ (by omega)]; omega, he.symm⟩
  have him0 : ∀ b, Im (E.via (ls.map some)) H0 b → Im E H b ∧ ∀ x, x ∉ ls → ∀ C, H[x]? = some C → C.own (E.nil x) = true → E.blk x ≠ b := by
    rintro b ⟨p, B, hb, ho, rfl⟩
    obtain ⟨_, h2⟩ := renH_get hH
    rcases h2 p B hb with ⟨_, rfl⟩ | ⟨l, B0, k1, k2, k3⟩
    · cases ho
    · simp only [List.getElem?_map, Option.map_eq_some_iff, Option.some.injEq, exists_eq_right] at k1
      have hv := hvia p l k1
      simp only [Env.via, hv] at ho ⊢
      rw [(AB.ren_own k3 _).1] at ho
      refine ⟨⟨l, B0, k2, ho, rfl⟩, fun x hx C hC hoC he => hx ?_⟩
      have := hrep.inj x l C B0 hC k2 hoC ho he
      subst this
      exact List.mem_of_getElem? k1
  have hro' := hro r H0' g4
  have imB : ∀ b, b < w.heap.size → Im E' (backH ls H H0') b → Im E H b := by
    rintro b hb ⟨x, C, hx, ho, rfl⟩
    rcases get hx with ⟨h1, h2, h3⟩ | ⟨p, B, h1, h2, h3⟩
    · rw [hag.nil x h2] at ho
      rw [hag.blk x h2]
      exact ⟨x, C, h3, ho, rfl⟩
    · subst h2 h3
      have hp := lt_of_get h1
      rw [AB.by_own, hsame.nil p hp] at ho
      rw [hsame.blk p hp] at hb ⊢
      exact (him0 _ (hst.im _ hb ⟨p, B, h1, ho, rfl⟩)).1
  have hrep' : HRep E' (backH ls H H0') w' := by
    refine ⟨fun x C hx => ?_, fun x C hx => ?_, fun x x' C C' hx hx' ho ho' he => ?_, fun x k n g hx hn hi => ?_⟩
    · rcases get hx with ⟨h1, h2, h3⟩ | ⟨p, B, h1, h2, h3⟩
      · have hr := hrep.rep x C h3
        refine BRep.agree hag h2 (hrep.ok x C h3) (hr.kept fun hc => ?_)
        rcases hc with ho | ⟨⟨k, m, g, rfl⟩, hn⟩
        · exact hst.frame _ (hr.lt ho) fun hi => (him0 _ hi).2 x h1 C h3 ho rfl
        · exact hst.frame _ (ro_lt hr hn) fun hi => hrep.ro x k m g h3 hn (him0 _ hi).1
      · subst h2 h3
        exact BRep.by hsame (lt_of_get h1) (hst.rep.ok p B h1) (hst.rep.rep p B h1)
    · rcases get hx with ⟨h1, h2, h3⟩ | ⟨p, B, h1, h2, h3⟩
      · exact (hrep.ok x C h3).agree hag (by rw [hlenB]; omega)
      · subst h2 h3
        exact BOk.by hsame (hst.rep.ok p B h1)
    · rcases get hx with ⟨h1, h2, h3⟩ | ⟨p, B, h1, h2, h3⟩ <;> rcases get hx' with ⟨k1, k2, k3⟩ | ⟨p', B', k1, k2, k3⟩
      · rw [hag.nil x h2] at ho
        rw [hag.nil x' k2] at ho'
        rw [hag.blk x h2, hag.blk x' k2] at he
        exact hrep.inj x x' C C' h3 k3 ho ho' he
      · subst k2 k3
        have hp := lt_of_get k1
        rw [hag.nil x h2] at ho
        rw [AB.by_own, hsame.nil p' hp] at ho'
        rw [hag.blk x h2, hsame.blk p' hp] at he
        have hb := (hrep.rep x C h3).lt ho
        exact absurd he ((him0 _ (hst.im _ (he ▸ hb) ⟨p', B', k1, ho', rfl⟩)).2 x h1 C h3 ho)
      · subst h2 h3
        have hp := lt_of_get h1
        rw [hag.nil x' k2] at ho'
        rw [AB.by_own, hsame.nil p hp] at ho
        rw [hag.blk x' k2, hsame.blk p hp] at he
        have hb := (hrep.rep x' C' k3).lt ho'
        exact absurd he.symm ((him0 _ (hst.im _ (he ▸ hb) ⟨p, B, h1, ho, rfl⟩)).2 x' k1 C' k3 ho')
      · subst h2 h3 k2 k3
        have hp := lt_of_get h1
        have hp' := lt_of_get k1
        rw [AB.by_own, hsame.nil p hp] at ho
        rw [AB.by_own, hsame.nil p' hp'] at ho'
        rw [hsame.blk p hp, hsame.blk p' hp'] at he
        rw [hst.rep.inj p p' B B' h1 k1 ho ho' he]
    · rcases get hx with ⟨h1, h2, h3⟩ | ⟨p, B, h1, h2, h3⟩
      · rw [hag.nil x h2] at hn
        have hb := ro_lt (hrep.rep x _ h3) hn
        rw [hag.blk x h2] at hi
        exact hrep.ro x k n g h3 hn (imB _ hb hi)
      · have : B = .ro k n g := by cases B <;> simp [AB.by] at h3 ⊢; exact ⟨h3.1.symm, h3.2.1.symm, h3.2.2.symm⟩
        subst this
        exact absurd h1 (noRo_get hro')
  obtain ⟨v1, v2, v3⟩ := AV.by_ok hsame g2
  refine ⟨r.by fb, backH ls H H0', E', by rw [v1], ⟨hag, by rw [hlenB]; omega, hrep', hst.os, hst.tape, hst.output, hst.size, fun b hb hi => hst.frame b hb fun h0 => hi (him0 b h0).1, imB⟩, v2, v3 g3, hq r H0' g4⟩

end Go.Proofs.Ythckkoledhjmeaa.Ev

/-
  The abstract evaluator: functions that only read rows, in whatever heap; map loops' steps.
-/
namespace Go.Proofs.Ythckkoledhjmeaa.Ev
open Go

/-- The rows, as rows that are only read. -/
def roH (H : Heap) : List Nat → Option Heap
  | [] => some []
  | l :: ls => match rowOf H l, roH H ls with
    | some (k, n, g), some H' => some (.ro k n g :: H')
    | _, _ => none

theorem roH_get {H : Heap} : ∀ {ls : List Nat} {Hr : Heap}, roH H ls = some Hr → Hr.length = ls.length ∧ ∀ (p : Nat) (B : AB), Hr[p]? = some B → ∃ l k n g, ls[p]? = some l ∧ rowOf H l = some (k, n, g) ∧ B = .ro k n g
  | [], Hr, h => by cases h; exact ⟨rfl, fun p B h => by simp at h⟩
  | l :: ls, Hr, h => by
    simp only [roH] at h
    split at h
    · rename_i k n g H' hr hH
      cases h
      obtain ⟨h1, h2⟩ := roH_get hH
      refine ⟨by simp [h1], fun p B hp => ?_⟩
      cases p with
      | zero => simp at hp; exact ⟨l, k, n, g, rfl, hr, hp.symm⟩
      | succ p => simp at hp; simpa using h2 p B hp
    · cases h

theorem rowOf_lt {E : Env} {H : Heap} {w : World} (h : HRep E H w) {l k n : Nat} {g : Nat → List Value} (hr : rowOf H l = some (k, n, g)) (hn : E.nil l = false) : E.blk l < w.heap.size := by
  unfold rowOf at hr
  split at hr
  · rename_i hl; cases hr; exact (h.rep l _ hl).lt (by simp [AB.own, hn])
  · rename_i hl; cases hr; exact ro_lt (h.rep l _ hl) hn
  · rename_i hl; cases hr; exact (h.rep l _ hl).lt (by simp [AB.own, hn])
  · cases hr

/-- A function that only reads rows. -/
theorem CallsA.liftR {P : Program} {f : Nat} {args args0 : List AV} {H Hr : Heap} (ls : List Nat) (hr : renFr (ls.map some) args = some args0) (hH : roH H ls = some Hr)
    {Q0 : Value → Prop} (h : CallsA P f args0 Hr fun r _ => ∃ v, (r = .c v ∨ r = .d v) ∧ Q0 v) : CallsA P f args H fun r H' => H' = H ∧ ∃ v, r = .d v ∧ Q0 v := by
  intro E w hrep hargs
  obtain ⟨hlen, hget⟩ := roH_get hH
  obtain ⟨f1, f2, f3⟩ := renFr_ok (E := E) hr
  have hvia : ∀ (p l : Nat), ls[p]? = some l → ((((ls.map some).getD p none).getD p : Nat)) = l := by
    intro p l hp
    rw [List.getD_eq_getElem?_getD, List.getElem?_map, hp]
    rfl
  have noim : ∀ b, ¬ Im (E.via (ls.map some)) Hr b := by
    rintro b ⟨p, B, hp, ho, _⟩
    obtain ⟨_, _, _, _, _, _, rfl⟩ := hget p B hp
    cases ho
  have hrep0 : HRep (E.via (ls.map some)) Hr w := by
    refine ⟨fun p B hp => ?_, fun p B hp => ?_, fun p p' B B' hp hp' ho ho' he => ?_, fun p k n g hp hn hi => noim _ hi⟩
    · obtain ⟨l, k, n, g, h1, h2, rfl⟩ := hget p B hp
      have hv := hvia p l h1
      have hR := rowOf_rows hrep h2
      have e1 : (E.via (ls.map some)).nil p = E.nil l := by simp only [Env.via, hv]
      have e2 : (E.via (ls.map some)).blk p = E.blk l := by simp only [Env.via, hv]
      have e3 : (E.via (ls.map some)).base p = E.base l := by simp only [Env.via, hv]
      have e4 : (E.via (ls.map some)).cap p = E.cap l := by simp only [Env.via, hv]
      exact RoR.mk hR.pos (by rw [e1]; exact hR.nil) (by rw [e1, e4]; exact hR.cap) (fun hn => by rw [e1] at hn; rw [e2, e3]; exact ⟨rowOf_lt hrep h2 hn, hR.mem hn⟩) hR.len hR.one
    · obtain ⟨l, k, n, g, h1, h2, rfl⟩ := hget p B hp; trivial
    · obtain ⟨l, k, n, g, h1, h2, rfl⟩ := hget p B hp; cases ho
  refine (show Calls P f (args.map (AV.conc E)).toArray w _ from by
    rw [← f1]
    exact h (E.via (ls.map some)) w hrep0 fun x hx => ⟨by rw [hlen]; simpa using f2 x hx, f3 (fun x hx => (hargs x hx).2) x hx⟩).mono ?_
  rintro e w' ⟨r, H0', E0', rfl, hst, g2, g3, v, hv, hq⟩
  have hw : ∀ b, b < w.heap.size → w'.heap[b]? = w.heap[b]? := fun b hb => hst.frame b hb (noim b)
  refine ⟨.d v, H, E, by rcases hv with rfl | rfl <;> rfl, ⟨.refl _ _, Nat.le_refl _, ⟨fun l B hl => ?_, hrep.ok, hrep.inj, hrep.ro⟩, hst.os, hst.tape, hst.output, hst.size, fun b hb _ => hw b hb, fun b _ hi => hi⟩, Nat.zero_le _, ok_s.2 trivial, rfl, v, rfl, hq⟩
  have hr := hrep.rep l B hl
  refine hr.kept fun hc => ?_
  rcases hc with ho | ⟨⟨k, m, g, rfl⟩, hn⟩
  · exact hw _ (hr.lt ho)
  · exact hw _ (ro_lt hr hn)

/-! ### Ways in trees -/

def T.go {α : Type} : List Bool → T α → T α
  | [], t => t
  | b :: p, .ite _ t e => match b with | true => T.go p t | false => T.go p e
  | _ :: p, .need _ t => T.go p t
  | b :: p, .both t e => match b with | true => T.go p t | false => T.go p e
  | _ :: _, t => t

def T.kont {α : Type} : T α → Exit → St → T α
  | .code _ _ _ k => k
  | _ => fun _ _ => .fail

def T.kontC {α : Type} : T α → AV → Heap → T α
  | .call _ _ _ k => k
  | _ => fun _ _ => .fail

/-- The bodies of a code's loops, in the text's order. -/
def loopsOf : Code → List Code
  | .seq a b => loopsOf a ++ loopsOf b
  | .cond _ a b => loopsOf a ++ loopsOf b
  | .block _ c => loopsOf c
  | .loop c => c :: loopsOf c
  | .scope c => loopsOf c
  | _ => []

def bodyOf (P : Program) (f : Nat) : Code :=
  match P.funcs[f]? with
  | some fn => match fn.body with
    | some c => c
    | none => .skip
  | none => .skip

def loopAt (P : Program) (f i : Nat) : Code := (loopsOf (bodyOf P f)).getD i .skip

end Go.Proofs.Ythckkoledhjmeaa.Ev

/-
  What rows of packets hold; the first contract: two rows of packets are the same.
-/
namespace Go.Proofs.Ythckkoledhjmeaa.Ev
open Go

/-! ### What is known becomes pure data -/

def SV.toD : SV → SV
  | .c v => .d v
  | x => x

def EV.toD : EV → EV
  | .s x => .s x.toD
  | .agg cs => .agg (cs.map SV.toD)

def AV.toD : AV → AV
  | .e x => .e x.toD
  | .tup vs => .tup (vs.map EV.toD)

def AB.toD : AB → AB
  | .cells ty cs => .cells ty (cs.map SV.toD)
  | B => B

section
variable {E : Env}
theorem SV.toD_conc (x : SV) : x.toD.conc E = x.conc E ∧ x.toD.ref = x.ref ∧ (x.ok E → x.toD.ok E) := by cases x <;> exact ⟨rfl, rfl, fun h => h⟩

theorem cells_toD (cs : List SV) : (cs.map SV.toD).map (SV.conc E) = cs.map (SV.conc E) ∧ refs (cs.map SV.toD) = refs cs ∧ ((∀ x ∈ cs, x.ok E) → ∀ x ∈ cs.map SV.toD, x.ok E) := by
  refine ⟨?_, ?_, fun h x hx => ?_⟩
  · rw [List.map_map]; exact List.map_congr_left fun x _ => (SV.toD_conc x).1
  · induction cs with
    | nil => rfl
    | cons x xs ih => simp only [refs, List.map_cons, List.foldr_cons] at ih ⊢; rw [ih, (SV.toD_conc (E := E) x).2.1]
  · obtain ⟨y, hy, rfl⟩ := List.mem_map.1 hx
    exact (SV.toD_conc y).2.2 (h y hy)

theorem EV.toD_conc (x : EV) : x.toD.conc E = x.conc E ∧ x.toD.ref = x.ref ∧ ((∀ z ∈ x.svs, z.ok E) → ∀ z ∈ x.toD.svs, z.ok E) := by
  cases x with
  | s x => exact ⟨(SV.toD_conc x).1, (SV.toD_conc (E := E) x).2.1, fun h => by simpa [EV.svs, EV.toD] using (SV.toD_conc x).2.2 (by simpa [EV.svs] using h)⟩
  | agg cs => exact ⟨by simp only [EV.toD, EV.conc, (cells_toD cs).1], (cells_toD (E := E) cs).2.1, (cells_toD cs).2.2⟩

theorem AV.toD_conc (x : AV) : x.toD.conc E = x.conc E ∧ x.toD.ref = x.ref ∧ (x.ok E → x.toD.ok E) := by
  cases x with
  | e x => exact EV.toD_conc x
  | tup vs =>
    refine ⟨?_, ?_, fun h z hz => ?_⟩
    · simp only [AV.toD, AV.conc, List.map_map]
      rw [List.map_congr_left fun x _ => show (EV.conc E ∘ EV.toD) x = EV.conc E x from (EV.toD_conc (E := E) x).1]
    · simp only [AV.toD, AV.ref]
      induction vs with
      | nil => rfl
      | cons x xs ih => simp only [List.map_cons, List.foldr_cons]; rw [ih, (EV.toD_conc (E := E) x).2.1]
    · simp only [AV.toD, AV.svs, List.mem_flatMap, List.mem_map] at hz
      obtain ⟨y, ⟨u, hu, rfl⟩, hz⟩ := hz
      exact (EV.toD_conc u).2.2 (fun z hz => h z (by simp only [AV.svs, List.mem_flatMap]; exact ⟨u, hu, hz⟩)) z hz

theorem hrep_toD {H : Heap} {w : World} (h : HRep E H w) : HRep E (H.map AB.toD) w := by
  have get : ∀ {l : Nat} {C : AB}, (H.map AB.toD)[l]? = some C → ∃ B, H[l]? = some B ∧ C = B.toD := by
    intro l C hl
    rw [List.getElem?_map] at hl
    obtain ⟨B, hB, rfl⟩ := Option.map_eq_some_iff.1 hl
    exact ⟨B, hB, rfl⟩
  have own : ∀ (B : AB) b, B.toD.own b = B.own b := fun B b => by cases B <;> rfl
  have him : ∀ b, Im E (H.map AB.toD) b → Im E H b := by
    rintro b ⟨l, C, hl, ho, rfl⟩
    obtain ⟨B, hB, rfl⟩ := get hl
    exact ⟨l, B, hB, by rw [← own]; exact ho, rfl⟩
  refine ⟨fun l C hl => ?_, fun l C hl => ?_, fun l l' C C' hl hl' ho ho' he => ?_, fun l k n g hl hn hi => ?_⟩
  · obtain ⟨B, hB, rfl⟩ := get hl
    have hr := h.rep l B hB
    cases B <;> simp only [AB.toD] <;> try exact hr
    simp only [BRep, (cells_toD _).1] at hr ⊢
    exact hr
  · obtain ⟨B, hB, rfl⟩ := get hl
    have hr := h.ok l B hB
    rw [List.length_map]
    cases B <;> simp only [AB.toD] <;> try exact hr
    rename_i ty cs
    exact ⟨by rw [(cells_toD (E := E) cs).2.1]; exact hr.1, (cells_toD cs).2.2 hr.2⟩
  · obtain ⟨B, hB, rfl⟩ := get hl
    obtain ⟨B', hB', rfl⟩ := get hl'
    rw [own] at ho ho'
    exact h.inj l l' B B' hB hB' ho ho' he
  · obtain ⟨B, hB, he⟩ := get hl
    have : B = .ro k n g := by cases B <;> simp [AB.toD] at he ⊢; exact ⟨he.1.symm, he.2.1.symm, he.2.2.symm⟩
    subst this
    exact h.ro l k n g hB hn (him _ hi)

end

theorem Re.toD {n0 : Nat} {fr : List AV} {H : Heap} {R : List AV → Heap → Prop} (h : Re n0 (fr.map AV.toD) (H.map AB.toD) R) : Re n0 fr H R := by
  intro E w h1 h2 h3
  have hst : Step n0 E H w E (H.map AB.toD) w := by
    refine ⟨.refl _ _, by simpa using h3, hrep_toD h1, rfl, rfl, rfl, Nat.le_refl _, fun _ _ _ => rfl, fun b _ => ?_⟩
    rintro ⟨l, C, hl, ho, rfl⟩
    rw [List.getElem?_map] at hl
    obtain ⟨B, hB, rfl⟩ := Option.map_eq_some_iff.1 hl
    exact ⟨l, B, hB, by cases B <;> exact ho, rfl⟩
  obtain ⟨fr3, H3, E3, k1, k2, k3, k4⟩ := h E w hst.rep (fun x hx => by
    obtain ⟨y, hy, rfl⟩ := List.mem_map.1 hx
    rw [List.length_map, (AV.toD_conc (E := E) y).2.1]
    exact ⟨(h2 y hy).1, (AV.toD_conc y).2.2 (h2 y hy).2⟩) hst.len
  refine ⟨fr3, H3, E3, hst.trans k1 (Nat.le_refl _), ?_, k3, k4⟩
  rw [k2, List.map_map]
  exact List.map_congr_left fun x _ => (AV.toD_conc x).1

/-! ### Rows of packets -/

instance : DecidableEq Pkt := fun a b => decidable_of_iff (a.seq = b.seq ∧ a.mi = b.mi ∧ a.size = b.size ∧ a.sent = b.sent) (by cases a; cases b; simp)

def pkF (f : Nat → Pkt) : Nat → List Value := fun j => (f j).vals
def pkG (es : List Pkt) : Nat → List Value := fun j => (es.getD j Pkt.zero).vals

def decPkt : List Value → Pkt
  | [.int .u64 a, .int .i64 b, .int .i64 c, .int .i64 d] => ⟨a, b, c, d⟩
  | _ => Pkt.zero

@[simp] theorem dec_vals (p : Pkt) : decPkt p.vals = p := rfl

/-- Rows of packets. -/
def PkRow (n : Nat) (g : Nat → List Value) : Prop := ∀ j, j < n → g j = (decPkt (g j)).vals

theorem pkRow_F (n : Nat) (f : Nat → Pkt) : PkRow n (pkF f) := fun _ _ => rfl
theorem pkRow_G (n : Nat) (es : List Pkt) : PkRow n (pkG es) := fun _ _ => rfl

def samePk (n : Nat) (f : Nat → Pkt) (m : Nat) (g : Nat → Pkt) : Bool := n == m && (List.range n).all fun j => decide (f j = g j)

theorem samePk_iff {n m : Nat} {f g : Nat → Pkt} : samePk n f m g = true ↔ n = m ∧ ∀ j, j < n → f j = g j := by
  simp [samePk]

end Go.Proofs.Ythckkoledhjmeaa.Ev

/-
  The abstract evaluator's trees: rows of packets are compared.
-/
namespace Go.Proofs.Ythckkoledhjmeaa.Ev
open Go

def e16 : List (Nat × Ent) := [(16, .body o16 0)]

noncomputable def t16 (fa fb : Nat → Pkt) (na nb ia n za ib m zb : Nat) : T (AV × Heap) := callT Try.prog (entL e16) 1 16 [.e (.s (.sl 0 4 ia n za)), .e (.s (.sl 1 4 ib m zb))] [.ro 4 na (pkF fa), .ro 4 nb (pkF fb)] fun r H' => .ret (r, H')

theorem t16_eq (fa fb : Nat → Pkt) (na nb ia n za ib m zb : Nat) : t16 fa fb na nb ia n za ib m zb =
    T.ite ((↑n : Int) != (↑m : Int))
      (T.ret (AV.e (EV.s (SV.c (Value.bool false))), [AB.ro 4 na (pkF fa), AB.ro 4 nb (pkF fb)]))
      (T.code 2 (loopAt Try.prog 16 0).loop
        {
          fr :=
            [AV.e (EV.s (SV.sl 0 4 ia n za)), AV.e (EV.s (SV.sl 1 4 ib m zb)), AV.tup [], AV.tup [],
              AV.e (EV.s (SV.c (Value.bool false))), AV.e (EV.s (SV.c (Value.int IntKind.i64 0))),
              AV.e (EV.s (SV.sl 0 4 ia n za)), AV.e (EV.s (SV.d (Value.int IntKind.i64 (↑n : Int)))),
              AV.e (EV.s (SV.sl 1 4 ib m zb)), AV.e (EV.s (SV.d (Value.int IntKind.i64 (↑m : Int)))),
              AV.e (EV.s (SV.c (Value.bool false))), AV.tup [], AV.tup [], AV.tup [], AV.tup [], AV.tup [], AV.tup [],
              AV.tup [], AV.tup [], AV.tup [], AV.tup [], AV.tup [], AV.tup [], AV.tup [], AV.tup [], AV.tup []],
          H := [AB.ro 4 na (pkF fa), AB.ro 4 nb (pkF fb)] }
        (T.go [false] (t16 fa fb na nb ia n za ib m zb)).kont) := by kernel_rfl


noncomputable def t16b (fa fb : Nat → Pkt) (na nb ia n za ib m zb : Nat) (i : Int) (vs : Nat → Value) : T (Exit × List AV × Heap) := bodyT Try.prog e16 0 o16 2 (loopAt Try.prog 16 0) [0, 1, 4, 5] 26 [.e (.s (.sl 0 4 ia n za)), .e (.s (.sl 1 4 ib m zb)), .d (.bool false), .d (.int .i64 i)] [.ro 4 na (pkF fa), .ro 4 nb (pkF fb)] vs

theorem t16b_eq (fa fb : Nat → Pkt) (na nb ia n za ib m zb : Nat) (i : Int) (vs : Nat → Value) : t16b fa fb na nb ia n za ib m zb i vs =
    T.ite (decide (i < (↑n : Int)))
      (T.need (0 ≤ i ∧ i < (↑n : Int))
        (T.need (ia + i.toNat < na)
          (T.need (0 ≤ i ∧ i < (↑m : Int))
            (T.need (ib + i.toNat < nb)
              (T.ite
                (if true = true then
                  !(fun r => (fa (ia + i.toNat)).seq == (fb (ib + i.toNat)).seq && r)
                      ((fun r => (fa (ia + i.toNat)).mi == (fb (ib + i.toNat)).mi && r)
                        ((fun r => (fa (ia + i.toNat)).size == (fb (ib + i.toNat)).size && r)
                          ((fun r => (fa (ia + i.toNat)).sent == (fb (ib + i.toNat)).sent && r) true)))
                else
                  (fun r => (fa (ia + i.toNat)).seq == (fb (ib + i.toNat)).seq && r)
                    ((fun r => (fa (ia + i.toNat)).mi == (fb (ib + i.toNat)).mi && r)
                      ((fun r => (fa (ia + i.toNat)).size == (fb (ib + i.toNat)).size && r)
                        ((fun r => (fa (ia + i.toNat)).sent == (fb (ib + i.toNat)).sent && r) true))))
                (T.ret
                  (Exit.ret,
                    [AV.e (EV.s (SV.sl 0 4 ia n za)), AV.e (EV.s (SV.sl 1 4 ib m zb)),
                      AV.e (EV.s (SV.c (Value.bool false))), AV.e (EV.s (SV.d (Value.int IntKind.i64 i)))],
                    [AB.ro 4 na (pkF fa), AB.ro 4 nb (pkF fb)]))
                (T.ret
                  (Exit.normal,
                    [AV.e (EV.s (SV.sl 0 4 ia n za)), AV.e (EV.s (SV.sl 1 4 ib m zb)),
                      AV.e (EV.s (SV.d (Value.bool false))),
                      AV.e (EV.s (SV.d (Value.int IntKind.i64 (IntKind.i64.wrap (i + 1)))))],
                    [AB.ro 4 na (pkF fa), AB.ro 4 nb (pkF fb)])))))))
      (T.ret
        (Exit.exit 0,
          [AV.e (EV.s (SV.sl 0 4 ia n za)), AV.e (EV.s (SV.sl 1 4 ib m zb)), AV.e (EV.s (SV.d (Value.bool false))),
            AV.e (EV.s (SV.d (Value.int IntKind.i64 i)))],
          [AB.ro 4 na (pkF fa), AB.ro 4 nb (pkF fb)])) := by kernel_rfl


noncomputable def t16k (fa fb : Nat → Pkt) (na nb ia n za ib m zb : Nat) (i : Value) (b : Bool) (vs : Nat → Value) : T (AV × Heap) := ((t16 fa fb na nb ia n za ib m zb).go [false]).kont (.exit 0) ⟨fat [0, 1, 4, 5] vs [.e (.s (.sl 0 4 ia n za)), .e (.s (.sl 1 4 ib m zb)), .d (.bool b), .d i] 26 0, [.ro 4 na (pkF fa), .ro 4 nb (pkF fb)]⟩

theorem t16k_eq (fa fb : Nat → Pkt) (na nb ia n za ib m zb : Nat) (i : Value) (b : Bool) (vs : Nat → Value) : t16k fa fb na nb ia n za ib m zb i b vs =
    T.ret (AV.e (EV.s (SV.c (Value.bool true))), [AB.ro 4 na (pkF fa), AB.ro 4 nb (pkF fb)]) := by kernel_rfl


noncomputable def t16r (fa fb : Nat → Pkt) (na nb ia n za ib m zb : Nat) (i : Value) (b : Value) (vs : Nat → Value) : T (AV × Heap) := ((t16 fa fb na nb ia n za ib m zb).go [false]).kont .ret ⟨fat [0, 1, 4, 5] vs [.e (.s (.sl 0 4 ia n za)), .e (.s (.sl 1 4 ib m zb)), .c b, .d i] 26 0, [.ro 4 na (pkF fa), .ro 4 nb (pkF fb)]⟩

theorem t16r_eq (fa fb : Nat → Pkt) (na nb ia n za ib m zb : Nat) (i : Value) (b : Value) (vs : Nat → Value) : t16r fa fb na nb ia n za ib m zb i b vs =
    T.ret (AV.e (EV.s (SV.c b)), [AB.ro 4 na (pkF fa), AB.ro 4 nb (pkF fb)]) := by kernel_rfl


theorem kl16 : codeB o16 (loopAt Try.prog 16 0) = true := by kernel_rfl

end Go.Proofs.Ythckkoledhjmeaa.Ev

/-
  What two rows of packets are compared by.
-/
namespace Go.Proofs.Ythckkoledhjmeaa.Ev
open Go

theorem e16ok : EntsOk Try.prog e16 := ⟨k16, trivial⟩

theorem wrap_nat {i : Nat} (h : i < 9223372036854775808) : IntKind.i64.wrap (i : Int) = i := by rw [IntKind.wrap_i64]; omega

theorem wrap_succ {i : Nat} (h : i + 1 < 9223372036854775808) : IntKind.i64.wrap ((i : Int) + 1) = ((i + 1 : Nat) : Int) := by rw [IntKind.wrap_i64]; omega

/-- How far a counter is. -/
def ctr (p : Nat) (xs : List AV) : Nat := ((asInt (xs.getD p undefA)).getD 0).toNat

theorem same16 (fa fb : Nat → Pkt) (na nb ia n za ib m zb : Nat) (h1 : ia + n ≤ na) (h2 : ib + m ≤ nb) (hb : n < 9223372036854775807) :
    CallsA Try.prog 16 [.e (.s (.sl 0 4 ia n za)), .e (.s (.sl 1 4 ib m zb))] [.ro 4 na (pkF fa), .ro 4 nb (pkF fb)] fun r _ =>
      ∃ v, (r = .c v ∨ r = .d v) ∧ v = .bool (samePk n (fun j => fa (ia + j)) m (fun j => fb (ib + j))) := by
  refine calls_of fine e16ok 1 16 _ _ ?_
  show (t16 fa fb na nb ia n za ib m zb).sat _ _
  rw [t16_eq]
  refine ⟨fun h => ⟨_, .inl rfl, ?_⟩, fun h => ?_⟩
  · have hne : n ≠ m := by intro e; subst e; simp at h
    have : samePk n (fun j => fa (ia + j)) m (fun j => fb (ib + j)) = false := by
      rw [Bool.eq_false_iff, Ne, samePk_iff]
      exact fun h => hne h.1
    rw [this]
  · have hnm : n = m := by simp at h; omega
    refine code_loop fine e16ok 0 (live := [0, 1, 4, 5]) (N := 26) kl16
      (fun xs H => ∃ i : Nat, xs = [.e (.s (.sl 0 4 ia n za)), .e (.s (.sl 1 4 ib m zb)), .d (.bool false), .d (.int .i64 i)] ∧ H = [.ro 4 na (pkF fa), .ro 4 nb (pkF fb)] ∧ i ≤ n ∧ ∀ j, j < i → fa (ia + j) = fb (ib + j))
      (fun xs _ => n - ctr 3 xs) ?_ ?_ rfl ?_
    · rintro xs H ⟨i, rfl, rfl, _⟩; exact Nat.le_refl _
    · intro xs H vs hI
      cases hI with | intro i hI =>
      have hxs := hI.1
      have hH := hI.2.1
      have hi := hI.2.2.1
      have hj := hI.2.2.2
      clear hI
      rw [hxs, hH]
      have e := t16b_eq fa fb na nb ia n za ib m zb i vs
      unfold t16b at e
      rw [e]
      refine ⟨fun hlt => ?_, fun hge => ?_⟩
      · have hlt : i < n := by simpa using hlt
        refine ⟨by omega, by omega, by omega, by omega, fun hne => ?_, fun heq => ?_⟩
        · intro vs
          show (t16r fa fb na nb ia n za ib m zb (.int .i64 i) (.bool false) vs).sat _ _
          rw [t16r_eq]
          refine ⟨_, .inl rfl, ?_⟩
          have : samePk n (fun j => fa (ia + j)) m (fun j => fb (ib + j)) = false := by
            rw [Bool.eq_false_iff, Ne, samePk_iff]
            intro h
            have := h.2 i hlt
            simp only [Int.toNat_natCast] at hne
            rw [this] at hne
            simp at hne
          rw [this]
        · refine .refl ⟨⟨i + 1, ?_, rfl, by omega, fun j hji => ?_⟩, ?_⟩
          · rw [wrap_succ (by omega)]
          · rcases Nat.lt_succ_iff_lt_or_eq.1 hji with hji | rfl
            · exact hj j hji
            · simp only [Int.toNat_natCast, if_true, Bool.not_eq_false', Bool.and_eq_true, beq_iff_eq, Bool.and_true] at heq
              obtain ⟨e1, e2, e3, e4⟩ := heq
              cases ha : fa (ia + j) with | mk a b c d => cases hb : fb (ib + j) with | mk a' b' c' d' => simp_all
          · simp only [ctr, List.getD_cons_succ, List.getD_cons_zero, asInt, Option.getD_some]
            rw [wrap_succ (by omega)]
            omega
      · have hge : n ≤ i := by simpa using hge
        intro vs
        show (t16k fa fb na nb ia n za ib m zb (.int .i64 i) false vs).sat _ _
        rw [t16k_eq]
        refine ⟨_, .inl rfl, ?_⟩
        have : samePk n (fun j => fa (ia + j)) m (fun j => fb (ib + j)) = true := samePk_iff.2 ⟨hnm, fun j hjn => hj j (by omega)⟩
        rw [this]
    · refine .toD (.refl ⟨0, rfl, rfl, Nat.zero_le _, fun j hj => by omega⟩)

end Go.Proofs.Ythckkoledhjmeaa.Ev

/-
  The abstract evaluator's trees: the packets on their way of which something is so.
-/
namespace Go.Proofs.Ythckkoledhjmeaa.Ev
open Go

/-- A part of a code. -/
def sub : List Bool → Code → Code
  | [], c => c
  | b :: p, .seq x y => match b with | true => sub p x | false => sub p y
  | _ :: p, .block _ c => sub p c
  | _ :: p, .loop c => sub p c
  | _ :: _, c => c

/-- A region's operations. -/
def opsOf : Code → Array Oper
  | .region _ ops _ => ops
  | _ => #[]

def noOp : Oper := ⟨none, .move (.tmp 0), 0, "", #[], none⟩

def opAt (c : Code) (i : Nat) : Oper := (opsOf c).toList.getD i noOp

noncomputable def loop41 : Code := loopAt Try.prog 41 0
noncomputable def r41 (p : List Bool) : Code := sub p (bodyOf Try.prog 41)

theorem body41 : bodyOf Try.prog 41 = .seq (r41 [true]) (.seq (r41 [false, true]) (.seq (.seq (.region 2 (opsOf (r41 [false, false, true, true])) false) (.block 0 (.loop loop41))) (r41 [false, false, false]))) := by kernel_rfl
theorem loop41_eq : loop41 = .seq (.region 3 (opsOf (sub [true] loop41)) false) (.seq (.cond (.tmp 14) .skip (.exit 0)) (.block 1 (.seq (.region 4 (opsOf (sub [false, false, false, true] loop41)) false) (sub [false, false, false, false] loop41)))) := by kernel_rfl

/-- A ledger: how much room, the first number, the next one, when one was sent last, what is on its way. -/
structure LSt where
  room : Int
  first : Int
  next : Int
  last : Int
  es : List Pkt

def lc (L : LSt) (lm : Nat) : List SV := [.d (.int .i64 L.room), .d (.int .u64 L.first), .d (.int .u64 L.next), .d (.int .i64 L.last), .mp lm]

def eS : List (Nat × Ent) := [(44, .body oN 0), (42, .body oN 0)]

/-- Where a round has its entry. -/
def fr41 (vs : Nat → Value) (f : SV) (sl it : AV) (key : Int) (p : Pkt) : List AV :=
  put (put (put (fat [1, 5, 12] vs [.e (.s f), sl, it] 27 0) (some 13) (.tup [.s (.c (.bool true)), .s (.d (.int .u64 key)), .agg p.cells])) (some 14) (.c (.bool true))) (some 15) (.tup [.s (.d (.int .u64 key)), .agg p.cells])

noncomputable def rest4 : List Oper := (opsOf (sub [false, false, false, true] loop41)).toList.tail
noncomputable def tail41 : Code := sub [false, false, false, false] loop41

noncomputable def round41 (n0 : Nat) (σ : St) : T (Exit × List AV × Heap) :=
  regT Try.prog (callT Try.prog (entL eS) 1) (opsOf (sub [false, false, false, true] loop41)) rest4 σ fun σ' => codeT Try.prog (callT Try.prog (entL eS) 1) oN n0 0 tail41 σ' (endK [1, 5, 12] 27)

noncomputable def tO (vs : Nat → Value) (it : AV) (L : LSt) (p : Pkt) (k : Nat) (g : Nat → List Value) : T (Exit × List AV × Heap) := round41 2 ⟨fr41 vs (.fn 44 []) (.e (.s (.sl 2 4 0 k 0))) it p.seq p, [.cells 86 (lc L 1), .dead, .row 36 4 k g]⟩

theorem tO_eq (vs : Nat → Value) (it : AV) (L : LSt) (p : Pkt) (k : Nat) (g : Nat → List Value) : tO vs it L p k g =
    T.need
      (0 + k ≤ k ∧
        0 + 1 ≤
            (chunksOf (3 + 1) 1
                [Value.int IntKind.u64 p.seq, Value.int IntKind.i64 p.mi, Value.int IntKind.i64 p.size,
                  Value.int IntKind.i64 p.sent]).length ∧
          k + 1 ≤ most)
      (T.ret
        (Exit.normal, [AV.e (EV.s (SV.fn 44 [])), AV.e (EV.s (SV.sl 5 4 0 (k + 1) 0)), it],
          [AB.cells 86
              [SV.d (Value.int IntKind.i64 L.room), SV.d (Value.int IntKind.u64 L.first),
                SV.d (Value.int IntKind.u64 L.next), SV.d (Value.int IntKind.i64 L.last), SV.mp 1],
            AB.dead, AB.dead,
            AB.cells 36
              [SV.d (Value.int IntKind.u64 p.seq), SV.d (Value.int IntKind.i64 p.mi), SV.d (Value.int IntKind.i64 p.size),
                SV.d (Value.int IntKind.i64 p.sent)],
            AB.lit 36 4
              [[Value.int IntKind.u64 p.seq, Value.int IntKind.i64 p.mi, Value.int IntKind.i64 p.size,
                  Value.int IntKind.i64 p.sent]],
            AB.row 36 4 (k + 1)
              (appendG g 0 k
                (fun j =>
                  (chunksOf (3 + 1) 1
                        [Value.int IntKind.u64 p.seq, Value.int IntKind.i64 p.mi, Value.int IntKind.i64 p.size,
                          Value.int IntKind.i64 p.sent]).getD
                    j [])
                0)])) := by kernel_rfl


noncomputable def tE (vs : Nat → Value) (it : AV) (L : LSt) (att tmo : Int) (p : Pkt) (k : Nat) (g : Nat → List Value) : T (Exit × List AV × Heap) := round41 4 ⟨fr41 vs (.fn 42 [(2, 0), (3, 0)]) (.e (.s (.sl 4 4 0 k 0))) it p.seq p, [.cells 86 (lc L 1), .dead, .cells 3 [.d (.int .i64 att)], .cells 3 [.d (.int .i64 tmo)], .row 36 4 k g]⟩

theorem tE_eq (vs : Nat → Value) (it : AV) (L : LSt) (att tmo : Int) (p : Pkt) (k : Nat) (g : Nat → List Value) : tE vs it L att tmo p k g =
    T.ite (decide (IntKind.i64.wrap (att - p.sent) ≥ tmo))
      (T.ite (decide (att ≥ 0))
        (T.need
          (0 + k ≤ k ∧
            0 + 1 ≤
                (chunksOf (3 + 1) 1
                    [Value.int IntKind.u64 p.seq, Value.int IntKind.i64 p.mi, Value.int IntKind.i64 p.size,
                      Value.int IntKind.i64 p.sent]).length ∧
              k + 1 ≤ most)
          (T.ret
            (Exit.normal, [AV.e (EV.s (SV.fn 42 [(2, 0), (3, 0)])), AV.e (EV.s (SV.sl 7 4 0 (k + 1) 0)), it],
              [AB.cells 86
                  [SV.d (Value.int IntKind.i64 L.room), SV.d (Value.int IntKind.u64 L.first),
                    SV.d (Value.int IntKind.u64 L.next), SV.d (Value.int IntKind.i64 L.last), SV.mp 1],
                AB.dead, AB.cells 3 [SV.d (Value.int IntKind.i64 att)], AB.cells 3 [SV.d (Value.int IntKind.i64 tmo)],
                AB.dead,
                AB.cells 36
                  [SV.d (Value.int IntKind.u64 p.seq), SV.d (Value.int IntKind.i64 p.mi),
                    SV.d (Value.int IntKind.i64 p.size), SV.d (Value.int IntKind.i64 p.sent)],
                AB.lit 36 4
                  [[Value.int IntKind.u64 p.seq, Value.int IntKind.i64 p.mi, Value.int IntKind.i64 p.size,
                      Value.int IntKind.i64 p.sent]],
                AB.row 36 4 (k + 1)
                  (appendG g 0 k
                    (fun j =>
                      (chunksOf (3 + 1) 1
                            [Value.int IntKind.u64 p.seq, Value.int IntKind.i64 p.mi, Value.int IntKind.i64 p.size,
                              Value.int IntKind.i64 p.sent]).getD
                        j [])
                    0)])))
        (T.ite (decide (IntKind.i64.wrap (att - p.sent) < 0))
          (T.need
            (0 + k ≤ k ∧
              0 + 1 ≤
                  (chunksOf (3 + 1) 1
                      [Value.int IntKind.u64 p.seq, Value.int IntKind.i64 p.mi, Value.int IntKind.i64 p.size,
                        Value.int IntKind.i64 p.sent]).length ∧
                k + 1 ≤ most)
            (T.ret
              (Exit.normal, [AV.e (EV.s (SV.fn 42 [(2, 0), (3, 0)])), AV.e (EV.s (SV.sl 7 4 0 (k + 1) 0)), it],
                [AB.cells 86
                    [SV.d (Value.int IntKind.i64 L.room), SV.d (Value.int IntKind.u64 L.first),
                      SV.d (Value.int IntKind.u64 L.next), SV.d (Value.int IntKind.i64 L.last), SV.mp 1],
                  AB.dead, AB.cells 3 [SV.d (Value.int IntKind.i64 att)], AB.cells 3 [SV.d (Value.int IntKind.i64 tmo)],
                  AB.dead,
                  AB.cells 36
                    [SV.d (Value.int IntKind.u64 p.seq), SV.d (Value.int IntKind.i64 p.mi),
                      SV.d (Value.int IntKind.i64 p.size), SV.d (Value.int IntKind.i64 p.sent)],
                  AB.lit 36 4
                    [[Value.int IntKind.u64 p.seq, Value.int IntKind.i64 p.mi, Value.int IntKind.i64 p.size,
                        Value.int IntKind.i64 p.sent]],
                  AB.row 36 4 (k + 1)
                    (appendG g 0 k
                      (fun j =>
                        (chunksOf (3 + 1) 1
                              [Value.int IntKind.u64 p.seq, Value.int IntKind.i64 p.mi, Value.int IntKind.i64 p.size,
                                Value.int IntKind.i64 p.sent]).getD
                          j [])
                      0)])))
          (T.ret
            (Exit.normal, [AV.e (EV.s (SV.fn 42 [(2, 0), (3, 0)])), AV.e (EV.s (SV.sl 4 4 0 k 0)), it],
              [AB.cells 86
                  [SV.d (Value.int IntKind.i64 L.room), SV.d (Value.int IntKind.u64 L.first),
                    SV.d (Value.int IntKind.u64 L.next), SV.d (Value.int IntKind.i64 L.last), SV.mp 1],
                AB.dead, AB.cells 3 [SV.d (Value.int IntKind.i64 att)], AB.cells 3 [SV.d (Value.int IntKind.i64 tmo)],
                AB.row 36 4 k g,
                AB.cells 36
                  [SV.d (Value.int IntKind.u64 p.seq), SV.d (Value.int IntKind.i64 p.mi),
                    SV.d (Value.int IntKind.i64 p.size), SV.d (Value.int IntKind.i64 p.sent)]]))))
      (T.ret
        (Exit.normal, [AV.e (EV.s (SV.fn 42 [(2, 0), (3, 0)])), AV.e (EV.s (SV.sl 4 4 0 k 0)), it],
          [AB.cells 86
              [SV.d (Value.int IntKind.i64 L.room), SV.d (Value.int IntKind.u64 L.first),
                SV.d (Value.int IntKind.u64 L.next), SV.d (Value.int IntKind.i64 L.last), SV.mp 1],
            AB.dead, AB.cells 3 [SV.d (Value.int IntKind.i64 att)], AB.cells 3 [SV.d (Value.int IntKind.i64 tmo)],
            AB.row 36 4 k g,
            AB.cells 36
              [SV.d (Value.int IntKind.u64 p.seq), SV.d (Value.int IntKind.i64 p.mi), SV.d (Value.int IntKind.i64 p.size),
                SV.d (Value.int IntKind.i64 p.sent)]])) := by kernel_rfl


end Go.Proofs.Ythckkoledhjmeaa.Ev

/-
  A loop over a map of packets: its iterator lies beside the heap that is told of.
-/
namespace Go.Proofs.Ythckkoledhjmeaa.Ev
open Go

variable {P : Program}

/-- An iterator under way: what is still to come. -/
structure Iter (w : World) (r bm : Nat) (ents : Array MapEntry) (clock : Nat) (lf : List MapEntry) : Prop where
  map : w.heap[bm]? = some (.map ents clock)
  it : ∃ since seen c0, w.heap[r]? = some (.mapIter (some bm) since seen c0) ∧ since ≤ c0 ∧ since ≤ clock ∧ (∀ x ∈ ents.toList, x.born < since) ∧ lf = (leftOf ents seen).toList

/-- Nothing turns but one block. -/
structure OutW (w w' : World) (r : Nat) : Prop where
  os : w'.os = w.os
  tape : w'.tape = w.tape
  output : w'.output = w.output
  size : w'.heap.size = w.heap.size
  heap : ∀ b, b ≠ r → w'.heap[b]? = w.heap[b]?

theorem left_perm {e : MapEntry} : ∀ {l : List MapEntry} (seen : Array Nat), (l.map (·.born)).Nodup → e ∈ l.filter (fun x => !seen.contains x.born) →
    (l.filter fun x => !seen.contains x.born).Perm (e :: l.filter fun x => !(seen.push e.born).contains x.born)
  | [], seen, _, h => by simp at h
  | x :: l, seen, hn, h => by
    have hn' := List.nodup_cons.1 (by simpa using hn : ((x.born :: l.map (·.born)).Nodup))
    by_cases hx : x.born = e.born
    · have hxe : x = e := by
        rcases List.mem_cons.1 (List.mem_filter.1 h).1 with he | hm
        · exact he.symm
        · exact absurd (hx ▸ List.mem_map.2 ⟨e, hm, rfl⟩) hn'.1
      subst hxe
      have h1 : (!seen.contains x.born) = true := (List.mem_filter.1 h).2
      have h2 : (!(seen.push x.born).contains x.born) = false := by simp
      rw [List.filter_cons, if_pos h1, List.filter_cons, if_neg (by simp)]
      refine List.Perm.cons _ (List.Perm.of_eq ?_)
      apply List.filter_congr
      intro y hy
      have : y.born ≠ x.born := fun he => hn'.1 (he ▸ List.mem_map.2 ⟨y, hy, rfl⟩)
      simp [this]
    · have hm : e ∈ l.filter (fun x => !seen.contains x.born) := by
        rw [List.mem_filter] at h ⊢
        rcases List.mem_cons.1 h.1 with rfl | hm
        · exact absurd rfl hx
        · exact ⟨hm, h.2⟩
      have ih := left_perm seen hn'.2 hm
      by_cases hs : seen.contains x.born = true
      · have hs' : x.born ∈ seen := by simpa using hs
        rw [List.filter_cons, if_neg (by simpa using hs'), List.filter_cons, if_neg (by simp [hs'])]
        exact ih
      · have hs' : x.born ∉ seen := by simpa using hs
        rw [List.filter_cons, if_pos (by simpa using hs'), List.filter_cons, if_pos (by simp [hs', hx])]
        exact (List.Perm.cons x ih).trans (List.Perm.swap _ _ _)

theorem iter_next {w : World} {r bm clock : Nat} {ents : Array MapEntry} {lf : List MapEntry} (h : Iter w r bm ents clock lf) (hn : (ents.toList.map (·.born)).Nodup) (hr : r ≠ bm) (ty : TypeId) :
    (lf = [] ∧ (Instr.next (.pointer (some ⟨r, 0, none⟩)) false ty).run P w = .ok (.tuple #[.bool false]) w) ∨
    ∃ e lf' w', e ∈ ents.toList ∧ lf.Perm (e :: lf') ∧ (Instr.next (.pointer (some ⟨r, 0, none⟩)) false ty).run P w = .ok (.tuple #[.bool true, e.key, e.val]) w' ∧
      Iter w' r bm ents clock lf' ∧ (Instr.entry (.pointer (some ⟨r, 0, none⟩))).run P w' = .ok (.tuple #[e.key, e.val]) w' ∧ OutW w w' r := by
  obtain ⟨since, seen, c0, h1, h2, h2', h3, rfl⟩ := h.it
  rcases run_next_at (P := P) w ty r bm since c0 seen ents clock h1 h.map h3 h2 with ⟨g1, g2⟩ | ⟨e, he, w1, hw1, hrun⟩
  · left
    exact ⟨List.eq_nil_of_length_eq_zero (by simpa using g1), g2⟩
  · right
    have hlt : r < w.heap.size := (Array.getElem?_eq_some_iff.1 h1).1
    have hheap : w1.heap = w.heap := by rcases hw1 with rfl | rfl <;> rfl
    have hnew : (ChangeMaps.setBlock w1 r (.mapIter (some bm) since (seen.push e.born) clock)).heap = w.heap.setIfInBounds r (.mapIter (some bm) since (seen.push e.born) clock) := by simp [ChangeMaps.setBlock, hheap]
    have hm' : (ChangeMaps.setBlock w1 r (.mapIter (some bm) since (seen.push e.born) clock)).heap[bm]? = some (.map ents clock) := by rw [hnew, Array.getElem?_setIfInBounds_ne hr]; exact h.map
    have hr' : (ChangeMaps.setBlock w1 r (.mapIter (some bm) since (seen.push e.born) clock)).heap[r]? = some (.mapIter (some bm) since (seen.push e.born) clock) := by rw [hnew]; simp [hlt]
    have hmem : e ∈ ents.toList := by
      simp only [leftOf, Array.toList_filter] at he
      exact (List.mem_filter.1 he).1
    refine ⟨e, (leftOf ents (seen.push e.born)).toList, _, hmem, ?_, hrun, ⟨hm', since, seen.push e.born, clock, hr', h2', h2', h3, rfl⟩, run_entry_at _ r bm since seen ents clock e hr' hm' hmem hn, ?_⟩
    · simp only [leftOf, Array.toList_filter] at he ⊢
      exact left_perm seen hn he
    · rcases hw1 with rfl | rfl <;> exact ⟨rfl, rfl, rfl, by simp [ChangeMaps.setBlock], fun b hb => by rw [hnew, Array.getElem?_setIfInBounds_ne (Ne.symm hb)]⟩

end Go.Proofs.Ythckkoledhjmeaa.Ev

/-
  ledger.some's loop.
-/
namespace Go.Proofs.Ythckkoledhjmeaa.Ev
open Go

/-! ### A world turns beside the heap -/

theorem step_out {n0 : Nat} {E0 E : Env} {H0 H : Heap} {w0 w w' : World} {r : Nat} (h : Step n0 E0 H0 w0 E H w) (ho : OutW w w' r) (hr : w0.heap.size ≤ r) (hi : ¬ Im E H r) (hro : noRo H = true) : Step n0 E0 H0 w0 E H w' := by
  refine ⟨h.agree, h.len, ⟨fun l B hl => (h.rep.rep l B hl).kept fun hc => ?_, h.rep.ok, h.rep.inj, h.rep.ro⟩, ho.os.trans h.os, ho.tape.trans h.tape, ho.output.trans h.output, by rw [ho.size]; exact h.size, fun b hb hn => ?_, h.im⟩
  · rcases hc with hc | ⟨⟨k, m, g, rfl⟩, hn⟩
    · exact ho.heap _ fun e => hi ⟨l, B, hl, hc, e⟩
    · exact absurd hl (noRo_get hro)
  · rw [ho.heap b (by omega)]; exact h.frame b hb hn

theorem heap_kept (w : World) (o : Obj) (i : Nat) (h : i < w.heap.size) : (w.alloc o).heap[i]? = w.heap[i]? := by
  show (w.heap.push o)[i]? = _
  rw [Array.getElem?_push, if_neg (by omega)]

theorem step_alloc_out {n0 : Nat} {E0 E : Env} {H0 H : Heap} {w0 w : World} (h : Step n0 E0 H0 w0 E H w) (o : Obj) : Step n0 E0 H0 w0 E H (w.alloc o) := by
  refine ⟨h.agree, h.len, ⟨fun l B hl => (h.rep.rep l B hl).kept fun hc => ?_, h.rep.ok, h.rep.inj, h.rep.ro⟩, h.os, h.tape, h.output, by simp; exact Nat.le_succ_of_le h.size, fun b hb hn => ?_, h.im⟩
  · rcases hc with hc | ⟨⟨k, m, g, rfl⟩, hn⟩
    · exact heap_kept w _ _ ((h.rep.rep l B hl).lt hc)
    · exact heap_kept w _ _ (ro_lt (h.rep.rep l _ hl) hn)
  · rw [heap_kept w _ _ (Nat.lt_of_lt_of_le hb h.size)]; exact h.frame b hb hn

/-- A map that was hidden is shown again. -/
theorem step_show {n0 l : Nat} {E0 E : Env} {H H' : Heap} {w0 w : World} {es : List Pkt} (h0 : HRep E0 H w0) (hl : H[l]? = some (.pm es)) (hln : l < n0) (hst : Step n0 E0 (H.set l .dead) w0 E (H'.set l .dead) w) (hl' : H'[l]? = some (.pm es))
    (hm : w.heap[E0.blk l]? = w0.heap[E0.blk l]?) (hro : noRo H' = true) : Step n0 E0 H w0 E H' w := by
  have hb : E.blk l = E0.blk l := hst.agree.blk l hln
  have hlt : l < H'.length := lt_of_get hl'
  have hlt0 : E0.blk l < w0.heap.size := (h0.rep l _ hl).lt rfl
  have get : ∀ {x : Nat} {C : AB}, H'[x]? = some C → x = l ∨ (x ≠ l ∧ (H'.set l .dead)[x]? = some C) := by
    intro x C hx
    by_cases he : x = l
    · exact .inl he
    · exact .inr ⟨he, by rw [List.getElem?_set_ne (Ne.symm he)]; exact hx⟩
  have get0 : ∀ {b : Nat}, Im E0 (H.set l .dead) b → Im E0 H b ∧ b ≠ E0.blk l := by
    rintro b ⟨x, C, hx, ho, rfl⟩
    rcases get_set hx with ⟨h1, h2⟩ | ⟨_, rfl, _⟩
    · exact ⟨⟨x, C, h2, ho, rfl⟩, fun he => h1 (h0.inj x l C _ h2 hl ho rfl he)⟩
    · cases ho
  refine ⟨hst.agree, by have := hst.len; simpa using this, ⟨fun x C hx => ?_, fun x C hx => ?_, fun x x' C C' hx hx' ho ho' he => ?_, fun x k n g hx => absurd hx (noRo_get hro)⟩, hst.os, hst.tape, hst.output, hst.size, fun b hb hn => hst.frame b hb fun hi => hn (get0 hi).1, fun b hb hi => ?_⟩
  · rcases get hx with rfl | ⟨_, h1⟩
    · rw [hl'] at hx
      cases hx
      obtain ⟨ents, clock, h2, h3⟩ := h0.rep _ _ hl
      exact ⟨ents, clock, by rw [hb, hm]; exact h2, h3⟩
    · exact hst.rep.rep x C h1
  · rcases get hx with rfl | ⟨_, h1⟩
    · rw [hl'] at hx; cases hx; trivial
    · have := hst.rep.ok x C h1; rwa [List.length_set] at this
  · rcases get hx with rfl | ⟨h1, h2⟩ <;> rcases get hx' with rfl | ⟨k1, k2⟩
    · rfl
    · rw [hb] at he
      exact absurd he.symm (get0 (hst.im _ (he ▸ hlt0) ⟨x', C', k2, ho', rfl⟩)).2
    · rw [hb] at he
      exact absurd he (get0 (hst.im _ (he ▸ hlt0) ⟨x, C, h2, ho, rfl⟩)).2
    · exact hst.rep.inj x x' C C' h2 k2 ho ho' he
  · obtain ⟨x, C, hx, ho, rfl⟩ := hi
    rcases get hx with rfl | ⟨h1, h2⟩
    · exact ⟨_, _, hl, rfl, hb.symm⟩
    · exact (get0 (hst.im _ hb ⟨x, C, h2, ho, rfl⟩)).1

end Go.Proofs.Ythckkoledhjmeaa.Ev

/-
  ledger.some's loop.
-/
namespace Go.Proofs.Ythckkoledhjmeaa.Ev
open Go

noncomputable def nx : Oper := opAt (sub [true] loop41) 0
noncomputable def ex : Oper := opAt (sub [true] loop41) 1
noncomputable def en : Oper := opAt (sub [false, false, false, true] loop41) 0

theorem r3_list : (opsOf (sub [true] loop41)).toList = [nx, ex] := by kernel_rfl
theorem r4_list : (opsOf (sub [false, false, false, true] loop41)).toList = en :: rest4 := by kernel_rfl
theorem nx_op : nx.op = .next (.tmp 12) false := by kernel_rfl
theorem nx_dst : nx.dst = some 13 := by kernel_rfl
theorem nx_guard : nx.guard = none := by kernel_rfl
theorem ex_op : ex.op = .extract (.tmp 13) 0 := by kernel_rfl
theorem ex_dst : ex.dst = some 14 := by kernel_rfl
theorem ex_guard : ex.guard = none := by kernel_rfl
theorem en_op : en.op = .entry (.tmp 12) := by kernel_rfl
theorem en_dst : en.dst = some 15 := by kernel_rfl
theorem en_guard : en.guard = none := by kernel_rfl
theorem tail41_ok : codeB oN tail41 = true := by kernel_rfl
theorem eSok : EntsOk Try.prog eS := ⟨k44, k42, trivial⟩

theorem wpList_go {P : Program} {ops : Array Oper} {Q : Exit → Act → World → Prop} {o : Oper} {rest : List Oper} {a : Act} {w w' : World} {v : Value} (hg : o.guard = none) (h : (execOp a.eval o).run P w = .ok (.value v) w') (hk : wpList P ops Q rest (a.put o.dst v) w') :
    wpList P ops Q (o :: rest) a w :=
  wpList_plain hg fun K hK => by
    unfold Oper.wp
    rw [h]
    exact hK _ _ hk

/-- The loop's frame. -/
def xs41 (f : SV) (L n : Nat) (r : Nat) : List AV := [.e (.s f), .e (.s (.sl L 4 0 n 0)), .d (.pointer (some ⟨r, 0, none⟩))]

def add41 (pred : Pkt → Bool) (out : List Pkt) (p : Pkt) : List Pkt := if pred p then out ++ [p] else out

theorem add41_len (pred : Pkt → Bool) (out : List Pkt) (p : Pkt) : (add41 pred out p).length ≤ out.length + 1 := by
  unfold add41
  split
  · simp
  · omega

structure Round41 (Hb : Heap) (f : SV) (pred : Pkt → Bool) : Prop where
  go : ∀ (vs : Nat → Value) (r : Nat) (p : Pkt) (out : List Pkt), out.length + 1 ≤ most →
    (round41 Hb.length ⟨fr41 vs f (.e (.s (.sl Hb.length 4 0 out.length 0))) (.d (.pointer (some ⟨r, 0, none⟩))) p.seq p, Hb ++ [.row 36 4 out.length (pkG out)]⟩).sat Try.prog fun x => x.1 = .normal ∧
      Re Hb.length x.2.1 x.2.2 fun xs H => xs = xs41 f Hb.length (add41 pred out p).length r ∧ H = Hb ++ [.row 36 4 (add41 pred out p).length (pkG (add41 pred out p))]

/-- Where the loop ends. -/
def End41 (E0 : Env) (w0 : World) (Hb : Heap) (f : SV) (r bm : Nat) (ents : Array MapEntry) (clock : Nat) (fin : List Pkt) (e : Exit) (a' : Act) (w' : World) : Prop :=
  ∃ (out : List Pkt) (E' : Env) (vs : Nat → Value), e = .exit 0 ∧ Step Hb.length E0 Hb w0 E' (Hb ++ [.row 36 4 out.length (pkG out)]) w' ∧
    FRep E' (Hb.length + 1) (fat [1, 5, 12] vs (xs41 f Hb.length out.length r) 27 0) a' ∧ w'.heap[bm]? = some (.map ents clock) ∧ out.Perm fin

theorem noRo_app : ∀ {H K : Heap}, noRo H = true → noRo K = true → noRo (H ++ K) = true
  | [], _, _, h => h
  | B :: H, K, h, h' => by
    cases B with
    | ro k n g => cases h
    | cells ty cs => exact noRo_app (H := H) h h'
    | row ty k n g => exact noRo_app (H := H) h h'
    | lit ty k ch => exact noRo_app (H := H) h h'
    | pm es => exact noRo_app (H := H) h h'
    | dead => exact noRo_app (H := H) h h'

set_option maxRecDepth 100000 in
theorem rounds41 {E0 : Env} {w0 : World} {Hb : Heap} {f : SV} {bm r clock : Nat} {ents : Array MapEntry} (hn : (ents.toList.map (·.born)).Nodup) (hrb : r ≠ bm) (hr0 : w0.heap.size ≤ r) (hbm : bm < w0.heap.size) (hbi : ¬ Im E0 Hb bm) (hro : noRo Hb = true)
    (pred : Pkt → Bool) (pkO : MapEntry → Pkt) (hkv : ∀ e ∈ ents.toList, e.key = .int .u64 (pkO e).seq ∧ e.val = .agg (pkO e).vals.toArray) (hround : Round41 Hb f pred) :
    ∀ (n : Nat) (lf : List MapEntry) (out : List Pkt) (E : Env) (a : Act) (w : World) (vs : Nat → Value), lf.length < n → out.length + lf.length ≤ most → Iter w r bm ents clock lf →
      Step Hb.length E0 Hb w0 E (Hb ++ [.row 36 4 out.length (pkG out)]) w → FRep E (Hb.length + 1) (fat [1, 5, 12] vs (xs41 f Hb.length out.length r) 27 0) a → ¬ Im E (Hb ++ [.row 36 4 out.length (pkG out)]) r →
      Code.rounds Try.prog loop41 (End41 E0 w0 Hb f r bm ents clock (out ++ (lf.map pkO).filter pred)) n a w := by
  intro n
  induction n with
  | zero => intro lf out E a w vs h; omega
  | succ n ih =>
    intro lf out E a w vs hlt hmost hit hst hf hri
    have hroH : noRo (Hb ++ [.row 36 4 out.length (pkG out)]) = true := noRo_app hro rfl
    rw [rounds_succ, loop41_eq]
    refine wp_seq (wp_region_list ?_)
    rw [r3_list]
    have ev12 : a.eval (.tmp 12) = .pointer (some ⟨r, 0, none⟩) := by rw [hf.eval]; rfl
    have hlen : (Hb ++ [AB.row 36 4 out.length (pkG out)]).length = Hb.length + 1 := by simp
    rcases iter_next (P := Try.prog) hit hn hrb nx.type with ⟨hlf, hrun⟩ | ⟨e, lf', w1, he, hperm, hrun, hit', hent, hout⟩
    · -- nothing is left
      subst hlf
      refine wpList_go nx_guard (v := .tuple #[.bool false]) (w' := w) (by simp only [execOp, nx_op, ev12, Sem.run_bind, hrun, Result.andThen_ok, Sem.run_pure]) ?_
      rw [nx_dst]
      have hf1 := hf.put (some 13) (.tup [.s (.c (.bool false))]) (by simp [AV.ref, EV.ref, SV.ref]) (by intro x hx; simp [AV.svs, EV.svs] at hx; subst hx; trivial)
      have hp : pureA Try.prog (put (fat [1, 5, 12] vs (xs41 f Hb.length out.length r) 27 0) (some 13) (.tup [.s (.c (.bool false))])) ex.op = .v (.c (.bool false)) := by rw [ex_op]; rfl
      obtain ⟨g1, _, _⟩ := pure_gives hf1 ex (.c (.bool false)) (by rw [hp]; rfl)
      refine wpList_go ex_guard (g1 w) ?_
      rw [ex_dst]
      have hf2 := hf1.put (some 14) (.c (.bool false)) (Nat.zero_le _) (ok_s.2 trivial)
      refine wp_seq (wp_cond_false ((hf2.eval (.tmp 14)).trans rfl) (wp_exit ?_))
      obtain ⟨vs', hf3⟩ := hf2.slim [1, 5, 12]
      exact ⟨out, E, vs', rfl, hst, hf3, hit.map, by simp⟩
    · -- one comes up
      obtain ⟨hk, hv⟩ := hkv e he
      have hst1 := step_out hst hout hr0 hri hroH
      refine wpList_go nx_guard (v := .tuple #[.bool true, e.key, e.val]) (w' := w1) (by simp only [execOp, nx_op, ev12, Sem.run_bind, hrun, Result.andThen_ok, Sem.run_pure]) ?_
      rw [nx_dst, hk, hv]
      have hf1 := hf.put (some 13) (.tup [.s (.c (.bool true)), .s (.d (.int .u64 (pkO e).seq)), .agg (pkO e).cells]) (Nat.zero_le _) (by
        intro x hx
        simp [AV.svs, EV.svs, Pkt.cells] at hx
        rcases hx with rfl | rfl | rfl | rfl | rfl | rfl <;> trivial)
      have hp : pureA Try.prog (put (fat [1, 5, 12] vs (xs41 f Hb.length out.length r) 27 0) (some 13) (.tup [.s (.c (.bool true)), .s (.d (.int .u64 (pkO e).seq)), .agg (pkO e).cells])) ex.op = .v (.c (.bool true)) := by rw [ex_op]; rfl
      obtain ⟨g1, _, _⟩ := pure_gives hf1 ex (.c (.bool true)) (by rw [hp]; rfl)
      refine wpList_go ex_guard (g1 w1) ?_
      rw [ex_dst]
      have hf2 := hf1.put (some 14) (.c (.bool true)) (Nat.zero_le _) (ok_s.2 trivial)
      refine wp_seq (wp_cond_true ((hf2.eval (.tmp 14)).trans rfl) (wp_skip ?_))
      refine wp_block (wp_seq (wp_region_list ?_))
      rw [r4_list]
      have ev12' := hf2.eval (.tmp 12)
      refine wpList_go en_guard (v := .tuple #[.int .u64 (pkO e).seq, .agg (pkO e).vals.toArray]) (w' := w1) (by
        rw [hk, hv] at hent
        have e12 : ((a.put (some 13) ((AV.tup [.s (.c (.bool true)), .s (.d (.int .u64 (pkO e).seq)), .agg (pkO e).cells]).conc E)).put (some 14) ((AV.c (.bool true)).conc E)).eval (.tmp 12) = .pointer (some ⟨r, 0, none⟩) := by rw [ev12']; rfl
        simp only [execOp, en_op]
        erw [e12]
        simp only [Sem.run_bind, hent, Result.andThen_ok, Sem.run_pure]) ?_
      rw [en_dst]
      have hf3 := hf2.put (some 15) (.tup [.s (.d (.int .u64 (pkO e).seq)), .agg (pkO e).cells]) (Nat.zero_le _) (by
        intro x hx
        simp [AV.svs, EV.svs, Pkt.cells] at hx
        rcases hx with rfl | rfl | rfl | rfl | rfl <;> trivial)
      have hll := hperm.length_eq
      simp only [List.length_cons] at hll
      have hsat := hround.go vs r (pkO e) out (by omega)
      rw [← hlen] at hf3
      unfold round41 at hsat
      have hreg := reg_sat fine (call_sat fine eSok.ent 1) rest4 hst1.rep hf3 hsat
      refine wpList_imp ?_ _ _ _ hreg
      rintro e1 a1 w2 ⟨σ1, E1, rfl, s1, f1, q1⟩
      refine wp_mono (code_sat fine (call_sat fine eSok.ent 1) tail41 E1 σ1 a1 w2 _ tail41_ok s1.rep f1 (Nat.le_trans (by simp) s1.len) q1) ?_
      rintro e2 a2 w3 ⟨σ2, E2, s2, f2, q2⟩
      unfold endK at q2
      split at q2
      · rename_i hb
        have hlen2 := Nat.eq_of_beq_eq_true hb
        obtain ⟨rfl, hre⟩ := q2
        obtain ⟨vs', f3⟩ := f2.slim [1, 5, 12]
        rw [hlen2] at f3
        have s12 := (s1.mono (by simp : Hb.length ≤ (Hb ++ [AB.row 36 4 out.length (pkG out)]).length)).trans s2 (Nat.le_refl _)
        obtain ⟨xs3, H3, E3, s3, k1, k2, rfl, rfl⟩ := hre E2 w3 s2.rep (slim_mem (fun x hx => ⟨f2.sc x hx, f2.ok x hx⟩) ⟨Nat.zero_le _, undef_ok⟩) s12.len
        have s123 := s12.trans s3 (Nat.le_refl _)
        have hrlt : r < w1.heap.size := by
          obtain ⟨_, _, _, h, _⟩ := hit'.it
          exact (Array.getElem?_eq_some_iff.1 h).1
        have hbmi : ¬ Im E (Hb ++ [.row 36 4 out.length (pkG out)]) bm := fun hi => hbi (hst1.im bm hbm hi)
        have hw : ∀ b, b < w1.heap.size → ¬ Im E (Hb ++ [.row 36 4 out.length (pkG out)]) b → w3.heap[b]? = w1.heap[b]? := s123.frame
        have hit3 : Iter w3 r bm ents clock lf' := by
          refine ⟨?_, ?_⟩
          · rw [hw bm (Nat.lt_of_lt_of_le hbm hst1.size) hbmi]; exact hit'.map
          · obtain ⟨since, seen, c0, h1, h2⟩ := hit'.it
            exact ⟨since, seen, c0, by rw [hw r hrlt hri]; exact h1, h2⟩
        have f4 := f3.fat (E2 := E3) (n2 := Hb.length + 1) k1 (fun x hx => by have := k2 x hx; simpa using this)
        have := ih lf' (add41 pred out (pkO e)) E3 a2 w3 vs' (by omega) (by have := add41_len pred out (pkO e); omega) hit3 (hst1.trans s123 (Nat.le_refl _)) f4 (fun hi => hri (s123.im r hrlt hi))
        refine rounds_mono n ?_ this
        rintro e3 a3 w4 ⟨out', E4, vs4, h1, h2, h3, h4, h5⟩
        refine ⟨out', E4, vs4, h1, h2, h3, h4, h5.trans ?_⟩
        have hp1 := (hperm.map pkO).filter pred
        simp only [List.map_cons] at hp1
        unfold add41
        split
        · rename_i hpr
          rw [List.filter_cons, if_pos hpr] at hp1
          simpa using List.Perm.append_left out hp1.symm
        · rename_i hpr
          rw [List.filter_cons, if_neg hpr] at hp1
          exact List.Perm.append_left out hp1.symm
      · exact q2.elim

end Go.Proofs.Ythckkoledhjmeaa.Ev

/-
  The two closures that ledger.some is called with.
-/
namespace Go.Proofs.Ythckkoledhjmeaa.Ev
open Go

theorem pkG_get (es : List Pkt) (j : Nat) : pkG es j = (es.getD j Pkt.zero).vals := rfl

theorem app_pk (out : List Pkt) (p : Pkt) (g2 : Nat → List Value) (h2 : g2 0 = p.vals) : ∀ j, j < out.length + 1 → appendG (pkG out) 0 out.length g2 0 j = pkG (out ++ [p]) j := by
  intro j hj
  simp only [appendG, pkG_get]
  split
  · rename_i h
    rw [Nat.zero_add, List.getD_eq_getElem?_getD, List.getD_eq_getElem?_getD, List.getElem?_append_left h]
  · have : j = out.length := by omega
    subst this
    rw [Nat.sub_self, Nat.add_zero, h2]
    simp

set_option maxRecDepth 100000 in
theorem round41_open (L : LSt) : Round41 [.cells 86 (lc L 1), .dead] (.fn 44 []) (fun _ => true) := by
  refine ⟨fun vs r p out hmost => ?_⟩
  have e := tO_eq vs (.d (.pointer (some ⟨r, 0, none⟩))) L p out.length (pkG out)
  unfold tO at e
  have hadd : add41 (fun _ => true) out p = out ++ [p] := rfl
  rw [hadd]
  change (round41 2 ⟨fr41 vs (.fn 44 []) (.e (.s (.sl 2 4 0 out.length 0))) (.d (.pointer (some ⟨r, 0, none⟩))) p.seq p, [.cells 86 (lc L 1), .dead, .row 36 4 out.length (pkG out)]⟩).sat _ _
  rw [e]
  refine ⟨⟨by omega, by simp [chunks_len], hmost⟩, rfl, ?_⟩
  refine Re.row 5 (pkG (out ++ [p])) rfl (app_pk out p _ rfl) (Re.ren [some 0, some 1, some 5] rfl rfl rfl (.refl ⟨?_, ?_⟩))
  · simp [xs41]
  · simp [lc]

/-- Is a packet's time over? -/
def overB (att tmo : Int) (p : Pkt) : Bool := decide (IntKind.i64.wrap (att - p.sent) ≥ tmo) && (decide (att ≥ 0) || decide (IntKind.i64.wrap (att - p.sent) < 0))

set_option maxRecDepth 100000 in
theorem round41_expire (L : LSt) (att tmo : Int) : Round41 [.cells 86 (lc L 1), .dead, .cells 3 [.d (.int .i64 att)], .cells 3 [.d (.int .i64 tmo)]] (.fn 42 [(2, 0), (3, 0)]) (overB att tmo) := by
  refine ⟨fun vs r p out hmost => ?_⟩
  have e := tE_eq vs (.d (.pointer (some ⟨r, 0, none⟩))) L att tmo p out.length (pkG out)
  unfold tE at e
  change (round41 4 ⟨fr41 vs (.fn 42 [(2, 0), (3, 0)]) (.e (.s (.sl 4 4 0 out.length 0))) (.d (.pointer (some ⟨r, 0, none⟩))) p.seq p, [.cells 86 (lc L 1), .dead, .cells 3 [.d (.int .i64 att)], .cells 3 [.d (.int .i64 tmo)], .row 36 4 out.length (pkG out)]⟩).sat _ _
  rw [e]
  have yes : overB att tmo p = true → add41 (overB att tmo) out p = out ++ [p] := fun h => by simp [add41, h]
  have no : overB att tmo p = false → add41 (overB att tmo) out p = out := fun h => by simp [add41, h]
  refine ⟨fun h1 => ⟨fun h2 => ?_, fun h2 => ⟨fun h3 => ?_, fun h3 => ?_⟩⟩, fun h1 => ?_⟩
  · rw [yes (by simp only [overB, h1, h2]; rfl)]
    refine ⟨⟨by omega, by simp [chunks_len], hmost⟩, rfl, ?_⟩
    refine Re.row 7 (pkG (out ++ [p])) rfl (app_pk out p _ rfl) (Re.ren [some 0, some 1, some 2, some 3, some 7] rfl rfl rfl (.refl ⟨?_, ?_⟩))
    · simp [xs41]
    · simp [lc]
  · rw [yes (by simp only [overB, h1, h2, h3]; rfl)]
    refine ⟨⟨by omega, by simp [chunks_len], hmost⟩, rfl, ?_⟩
    refine Re.row 7 (pkG (out ++ [p])) rfl (app_pk out p _ rfl) (Re.ren [some 0, some 1, some 2, some 3, some 7] rfl rfl rfl (.refl ⟨?_, ?_⟩))
    · simp [xs41]
    · simp [lc]
  · rw [no (by simp only [overB, h1, h2, h3]; rfl)]
    refine ⟨rfl, Re.ren [some 0, some 1, some 2, some 3, some 4] rfl rfl rfl (.refl ⟨?_, ?_⟩)⟩
    · simp [xs41]
    · simp [lc]
  · rw [no (by simp only [overB, h1]; rfl)]
    refine ⟨rfl, Re.ren [some 0, some 1, some 2, some 3, some 4] rfl rfl rfl (.refl ⟨?_, ?_⟩)⟩
    · simp [xs41]
    · simp [lc]

end Go.Proofs.Ythckkoledhjmeaa.Ev
