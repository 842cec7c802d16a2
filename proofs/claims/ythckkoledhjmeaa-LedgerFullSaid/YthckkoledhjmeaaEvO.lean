/-
  Orders for the regions that draw, function by function; they are held against the program's regions here.
-/
import Derived.Test.YthckkoledhjmeaaEvN
import Derived.Test.YthckkoledhjmeaaProg
import Derived.KernelRfl
namespace Go.Proofs.Ythckkoledhjmeaa.Ev
open Go

def okFn (P : Program) (f : Nat) (ord : Nat → Ct) : Bool :=
  match P.funcs[f]? with
  | some fn => match fn.body with
    | some c => codeB ord c
    | none => true
  | none => true

theorem okFn_ok {P : Program} {f : Nat} {ord : Nat → Ct} (h : okFn P f ord = true) {fn : Func} {c : Code} (h1 : P.funcs[f]? = some fn) (h2 : fn.body = some c) : codeB ord c = true := by
  simp only [okFn, h1, h2] at h
  exact h

def oN : Nat → Ct := fun _ => .done

def o3 : Nat → Ct
  | 12 => .take 0 (.take 1 (.take 2 (.take 3 (.take 4 (.take 6 (.take 7 (.take 8 (.take 9 (.take 10 (.force 5 [[4], [2]] (.force 11 [[10], [8]] (.force 12 [] (.take 13 (.done))))))))))))))
  | 24 => .take 0 (.take 2 (.take 3 (.take 4 (.take 5 (.force 1 [] (.force 6 [[5]] (.take 7 (.take 8 (.take 9 (.take 11 (.take 12 (.take 13 (.take 14 (.force 10 [] (.take 15 (.take 16 (.take 17 (.take 18 (.take 20 (.take 21 (.take 22 (.take 23 (.take 24 (.take 25 (.take 26 (.force 19 [[18, 17, 16, 15, 14]] (.take 27 (.take 28 (.done)))))))))))))))))))))))))))))
  | _ => .done

def o4 : Nat → Ct
  | 31 => .take 0 (.take 1 (.take 2 (.take 3 (.take 4 (.take 5 (.take 6 (.take 7 (.take 8 (.done)))))))))
  | _ => .done

def o6 : Nat → Ct
  | 14 => .take 0 (.take 1 (.take 2 (.take 3 (.take 4 (.take 5 (.take 6 (.take 7 (.take 8 (.take 9 (.take 10 (.take 11 (.take 12 (.take 13 (.take 14 (.take 15 (.take 16 (.take 17 (.take 18 (.take 19 (.take 20 (.take 21 (.take 22 (.take 23 (.take 24 (.take 25 (.take 26 (.done)))))))))))))))))))))))))))
  | 19 => .take 0 (.take 1 (.take 2 (.take 3 (.take 4 (.take 5 (.take 6 (.take 7 (.take 8 (.take 9 (.take 10 (.take 11 (.take 12 (.take 13 (.take 14 (.take 15 (.take 16 (.take 17 (.take 18 (.take 19 (.take 20 (.take 21 (.take 22 (.take 23 (.take 24 (.take 25 (.take 26 (.done)))))))))))))))))))))))))))
  | _ => .done

def o7 : Nat → Ct
  | 8 => .take 0 (.take 1 (.take 2 (.take 3 (.take 4 (.take 5 (.take 6 (.force 7 [[5]] (.take 8 (.take 9 (.take 10 (.take 12 (.take 13 (.take 14 (.take 15 (.take 16 (.take 17 (.take 18 (.take 19 (.take 20 (.force 11 [] (.force 21 [[20, 19], [20, 15]] (.take 22 (.take 23 (.done))))))))))))))))))))))))
  | _ => .done

def o8 : Nat → Ct
  | 10 => .take 0 (.take 1 (.take 2 (.take 3 (.take 4 (.take 5 (.force 6 [[5]] (.take 7 (.take 8 (.take 9 (.take 11 (.take 12 (.take 13 (.take 14 (.force 10 [] (.force 15 [[14]] (.take 16 (.take 17 (.take 18 (.take 19 (.take 21 (.take 22 (.take 23 (.take 24 (.take 25 (.take 26 (.take 27 (.take 28 (.take 29 (.take 30 (.force 20 [] (.take 31 (.take 32 (.done)))))))))))))))))))))))))))))))))
  | _ => .done

def o12 : Nat → Ct
  | 9 => .take 0 (.take 1 (.take 2 (.take 3 (.take 4 (.take 5 (.take 6 (.take 7 (.take 8 (.take 9 (.take 10 (.done)))))))))))
  | _ => .done

def o13 : Nat → Ct
  | 7 => .take 0 (.take 1 (.take 2 (.take 3 (.take 4 (.take 5 (.take 6 (.take 7 (.take 8 (.take 9 (.done))))))))))
  | 11 => .take 0 (.take 1 (.take 2 (.take 3 (.take 4 (.take 5 (.take 6 (.take 7 (.take 8 (.take 9 (.take 10 (.take 11 (.take 12 (.force 13 [[12, 8]] (.force 14 [[4]] (.take 15 (.take 16 (.force 17 [] (.done))))))))))))))))))
  | _ => .done

def o16 : Nat → Ct
  | 6 => .take 0 (.take 1 (.take 2 (.take 3 (.take 4 (.take 5 (.take 6 (.take 7 (.take 8 (.done)))))))))
  | _ => .done

def o17 : Nat → Ct
  | 7 => .take 0 (.take 1 (.take 2 (.take 3 (.take 4 (.take 5 (.force 6 [[5], [3]] (.done)))))))
  | _ => .done

def o21 : Nat → Ct
  | 3 => .take 0 (.take 1 (.take 2 (.take 3 (.take 4 (.take 5 (.take 6 (.take 7 (.take 8 (.take 9 (.take 10 (.done)))))))))))
  | _ => .done

def o26 : Nat → Ct
  | 19 => .take 0 (.take 1 (.take 2 (.take 3 (.take 4 (.take 5 (.take 6 (.take 7 (.take 8 (.take 9 (.take 10 (.take 11 (.force 12 [[11], [7, 5]] (.take 13 (.done))))))))))))))
  | _ => .done

def o27 : Nat → Ct
  | 6 => .take 0 (.take 1 (.take 2 (.take 3 (.take 4 (.take 5 (.take 6 (.take 7 (.take 8 (.done)))))))))
  | _ => .done

def o32 : Nat → Ct
  | 14 => .take 0 (.take 1 (.take 2 (.take 3 (.take 4 (.take 5 (.take 6 (.take 9 (.force 7 [[6]] (.force 8 [[5]] (.take 10 (.take 11 (.force 12 [] (.take 13 (.take 14 (.take 15 (.force 16 [] (.done)))))))))))))))))
  | _ => .done

def o33 : Nat → Ct
  | 9 => .take 0 (.take 1 (.take 2 (.take 3 (.take 4 (.take 5 (.take 6 (.take 7 (.force 8 [[5], [3]] (.take 9 (.take 10 (.take 11 (.take 12 (.take 13 (.done))))))))))))))
  | 12 => .take 0 (.take 2 (.take 3 (.take 4 (.force 1 [] (.take 5 (.force 6 [[3]] (.take 7 (.take 8 (.take 9 (.force 10 [] (.done)))))))))))
  | _ => .done

def o36 : Nat → Ct
  | 4 => .take 0 (.take 1 (.take 2 (.take 3 (.take 4 (.take 5 (.take 6 (.take 7 (.take 8 (.force 9 [[8], [3]] (.take 10 (.done)))))))))))
  | _ => .done

def o45 : Nat → Ct
  | 5 => .take 0 (.take 1 (.take 2 (.take 3 (.take 4 (.take 5 (.take 6 (.take 7 (.force 8 [[6], [3]] (.done)))))))))
  | 7 => .take 0 (.take 1 (.take 2 (.take 3 (.take 4 (.take 5 (.force 6 [[5]] (.force 7 [[4]] (.take 8 (.take 9 (.force 10 [] (.done)))))))))))
  | _ => .done

def o46 : Nat → Ct
  | 8 => .take 0 (.take 1 (.take 2 (.take 3 (.take 4 (.take 5 (.take 6 (.force 7 [[5], [3]] (.done))))))))
  | _ => .done

def o47 : Nat → Ct
  | 3 => .take 0 (.take 1 (.take 2 (.take 3 (.take 4 (.take 5 (.take 6 (.take 7 (.take 8 (.take 9 (.take 10 (.take 11 (.take 12 (.take 13 (.take 14 (.take 15 (.take 16 (.take 17 (.take 18 (.take 19 (.take 20 (.take 21 (.take 22 (.take 23 (.take 24 (.take 25 (.take 26 (.take 27 (.take 28 (.take 29 (.take 30 (.take 31 (.take 32 (.take 33 (.done))))))))))))))))))))))))))))))))))
  | 5 => .take 0 (.take 1 (.take 2 (.take 3 (.take 4 (.take 5 (.take 6 (.take 7 (.take 8 (.take 9 (.two 10 [[9], [7], [7, 6, 5], [7, 6, 3]] (.take 11 (.take 12 (.take 13 (.force 14 [] (.force 15 [] (.take 16 (.done))))))) 14 [] (.force 10 [[9], [7], [7, 6, 5], [7, 6, 3]] (.take 11 (.take 12 (.take 13 (.force 15 [] (.take 16 (.done)))))))))))))))))
  | 7 => .take 0 (.take 1 (.take 2 (.take 3 (.take 4 (.take 5 (.take 6 (.take 7 (.take 8 (.take 9 (.take 10 (.take 11 (.take 12 (.two 13 [[11], [9], [7], [7, 6, 5], [7, 6, 3]] (.take 14 (.take 15 (.take 16 (.force 17 [] (.force 18 [] (.take 19 (.done))))))) 17 [] (.force 13 [[11], [9], [7], [7, 6, 5], [7, 6, 3]] (.take 14 (.take 15 (.take 16 (.force 18 [] (.take 19 (.done))))))))))))))))))))
  | 9 => .take 0 (.take 1 (.take 2 (.take 3 (.take 4 (.take 5 (.take 6 (.take 7 (.force 8 [[6], [5], [3]] (.done)))))))))
  | _ => .done

def o48 : Nat → Ct
  | 3 => .take 0 (.take 1 (.take 2 (.take 3 (.take 4 (.take 5 (.take 6 (.take 7 (.take 8 (.take 9 (.take 10 (.take 11 (.take 12 (.take 13 (.take 14 (.take 15 (.take 16 (.take 17 (.take 18 (.take 19 (.take 20 (.take 21 (.take 22 (.take 23 (.done))))))))))))))))))))))))
  | _ => .done

def o50 : Nat → Ct
  | 6 => .take 0 (.take 1 (.take 2 (.take 3 (.take 4 (.take 5 (.take 6 (.take 7 (.take 8 (.take 9 (.take 10 (.take 11 (.take 12 (.two 13 [[11], [11, 10, 9, 8], [11, 10, 9, 8, 7], [11, 10, 3]] (.take 14 (.take 15 (.take 16 (.force 17 [] (.force 18 [] (.take 19 (.done))))))) 17 [] (.force 13 [[11], [11, 10, 9, 8], [11, 10, 9, 8, 7], [11, 10, 3]] (.take 14 (.take 15 (.take 16 (.force 18 [] (.take 19 (.done))))))))))))))))))))
  | 9 => .take 0 (.take 1 (.take 2 (.take 3 (.take 4 (.take 5 (.force 6 [[5]] (.force 7 [[4]] (.take 8 (.take 9 (.force 10 [] (.done)))))))))))
  | _ => .done

def o51 : Nat → Ct
  | 5 => .take 0 (.take 1 (.take 2 (.take 3 (.take 4 (.take 5 (.take 6 (.take 7 (.take 8 (.take 9 (.take 10 (.take 11 (.take 12 (.two 13 [[11], [11, 10, 9, 8], [11, 10, 9, 8, 7], [11, 10, 3]] (.take 14 (.take 15 (.take 16 (.force 17 [] (.force 18 [] (.take 19 (.done))))))) 17 [] (.force 13 [[11], [11, 10, 9, 8], [11, 10, 9, 8, 7], [11, 10, 3]] (.take 14 (.take 15 (.take 16 (.force 18 [] (.take 19 (.done))))))))))))))))))))
  | 8 => .take 0 (.take 1 (.take 2 (.take 3 (.take 4 (.take 5 (.take 6 (.take 7 (.force 8 [[5], [3]] (.take 9 (.take 10 (.take 11 (.take 12 (.take 13 (.done))))))))))))))
  | _ => .done

def o52 : Nat → Ct
  | 6 => .take 0 (.take 1 (.take 2 (.take 4 (.take 5 (.take 6 (.take 7 (.take 8 (.two 3 [[2]] (.two 9 [[7], [5]] (.take 10 (.take 11 (.take 12 (.force 13 [] (.force 14 [] (.take 15 (.done))))))) 13 [] (.force 9 [[7], [5]] (.take 10 (.take 11 (.take 12 (.force 14 [] (.take 15 (.done)))))))) 13 [] (.force 3 [[2]] (.force 9 [[7], [5]] (.take 10 (.take 11 (.take 12 (.force 14 [] (.take 15 (.done))))))))))))))))
  | _ => .done

def o53 : Nat → Ct
  | 6 => .take 0 (.take 1 (.take 2 (.take 4 (.take 5 (.two 3 [[2]] (.two 6 [[5]] (.take 7 (.take 8 (.take 9 (.force 10 [] (.force 11 [] (.take 12 (.done))))))) 10 [] (.force 6 [[5]] (.take 7 (.take 8 (.take 9 (.force 11 [] (.take 12 (.done)))))))) 10 [] (.force 3 [[2]] (.force 6 [[5]] (.take 7 (.take 8 (.take 9 (.force 11 [] (.take 12 (.done)))))))))))))
  | _ => .done

def o54 : Nat → Ct
  | 3 => .take 0 (.take 1 (.take 2 (.take 3 (.take 4 (.take 5 (.take 6 (.take 7 (.take 8 (.force 9 [[8], [3]] (.take 10 (.done)))))))))))
  | 7 => .take 0 (.take 1 (.take 2 (.take 3 (.take 4 (.take 5 (.take 7 (.take 8 (.take 9 (.take 10 (.take 11 (.two 6 [[5]] (.two 12 [[11]] (.take 13 (.take 14 (.take 15 (.force 16 [] (.force 17 [] (.take 18 (.done))))))) 16 [] (.force 12 [[11]] (.take 13 (.take 14 (.take 15 (.force 17 [] (.take 18 (.done)))))))) 16 [] (.force 6 [[5]] (.force 12 [[11]] (.take 13 (.take 14 (.take 15 (.force 17 [] (.take 18 (.done)))))))))))))))))))
  | _ => .done

def o58 : Nat → Ct
  | 1 => .take 0 (.take 1 (.take 2 (.take 3 (.take 4 (.take 5 (.take 6 (.take 7 (.take 8 (.take 9 (.take 10 (.take 11 (.done))))))))))))
  | _ => .done

def o61 : Nat → Ct
  | 8 => .take 0 (.take 1 (.take 2 (.take 3 (.force 4 [[3]] (.force 5 [[2]] (.force 6 [[0]] (.take 7 (.done))))))))
  | _ => .done

def o64 : Nat → Ct
  | 4 => .take 0 (.take 1 (.take 2 (.take 3 (.take 4 (.take 5 (.take 6 (.take 7 (.take 8 (.take 9 (.take 10 (.take 11 (.take 12 (.take 13 (.take 14 (.take 15 (.done))))))))))))))))
  | 5 => .take 0 (.take 1 (.take 2 (.take 3 (.take 4 (.take 5 (.two 6 [[5], [4], [1]] (.take 7 (.take 8 (.take 9 (.force 10 [] (.force 11 [] (.take 12 (.done))))))) 10 [] (.force 6 [[5], [4], [1]] (.take 7 (.take 8 (.take 9 (.force 11 [] (.take 12 (.done)))))))))))))
  | _ => .done

def o74 : Nat → Ct
  | 5 => .take 0 (.take 1 (.take 2 (.take 3 (.take 4 (.take 5 (.take 6 (.take 7 (.take 8 (.take 9 (.take 10 (.done)))))))))))
  | _ => .done

def o87 : Nat → Ct
  | 17 => .take 0 (.take 1 (.take 2 (.take 3 (.take 4 (.take 5 (.take 6 (.take 7 (.take 8 (.take 9 (.take 10 (.take 11 (.take 12 (.force 13 [[12], [8]] (.take 14 (.take 15 (.take 16 (.done)))))))))))))))))
  | _ => .done

def o94 : Nat → Ct
  | 2 => .take 0 (.take 1 (.take 2 (.take 3 (.take 4 (.take 5 (.take 6 (.force 7 [[6], [3]] (.take 8 (.take 9 (.take 10 (.take 11 (.take 12 (.take 13 (.take 14 (.take 15 (.force 16 [[15], [12]] (.take 17 (.take 18 (.take 19 (.take 20 (.take 21 (.take 22 (.take 23 (.take 24 (.take 25 (.force 26 [[25], [22]] (.take 27 (.take 28 (.take 29 (.take 30 (.take 31 (.take 32 (.take 33 (.take 34 (.take 35 (.take 36 (.take 37 (.take 38 (.take 39 (.take 40 (.take 41 (.take 42 (.take 43 (.take 44 (.take 45 (.take 46 (.take 47 (.take 48 (.take 49 (.take 50 (.take 51 (.take 52 (.take 53 (.force 54 [[53], [53, 41, 40, 39, 38], [53, 41, 40, 39, 35, 34], [53, 41, 40, 39, 35, 31]] (.take 55 (.take 56 (.take 57 (.done))))))))))))))))))))))))))))))))))))))))))))))))))))))))))
  | _ => .done

def o96 : Nat → Ct
  | 4 => .take 0 (.take 1 (.take 2 (.take 3 (.take 4 (.take 5 (.take 6 (.take 7 (.take 8 (.take 9 (.take 10 (.take 11 (.take 12 (.take 13 (.force 14 [[13], [8]] (.take 15 (.take 16 (.done)))))))))))))))))
  | 6 => .take 0 (.take 1 (.take 2 (.take 3 (.take 4 (.take 5 (.take 6 (.take 7 (.take 8 (.take 9 (.take 10 (.take 11 (.take 12 (.take 13 (.take 14 (.force 15 [[13], [9]] (.take 16 (.force 17 [] (.done))))))))))))))))))
  | _ => .done

def o97 : Nat → Ct
  | 10 => .take 0 (.take 1 (.take 2 (.take 3 (.take 4 (.take 5 (.take 6 (.take 7 (.take 8 (.take 9 (.take 10 (.take 11 (.take 12 (.take 13 (.take 14 (.take 15 (.take 16 (.force 17 [[15], [11]] (.take 18 (.force 19 [] (.done))))))))))))))))))))
  | _ => .done

def o98 : Nat → Ct
  | 10 => .take 0 (.take 1 (.take 2 (.take 3 (.take 4 (.take 5 (.take 6 (.take 7 (.take 8 (.take 9 (.take 10 (.take 11 (.take 12 (.take 13 (.take 14 (.take 15 (.take 16 (.force 17 [[15], [11]] (.take 18 (.force 19 [] (.done))))))))))))))))))))
  | _ => .done

def o100 : Nat → Ct
  | 3 => .take 0 (.take 1 (.take 2 (.take 3 (.take 4 (.take 5 (.take 6 (.take 7 (.take 8 (.take 9 (.take 10 (.take 11 (.take 12 (.force 13 [[11], [7]] (.take 14 (.force 15 [] (.done))))))))))))))))
  | _ => .done

def o101 : Nat → Ct
  | 5 => .take 0 (.take 1 (.take 2 (.take 3 (.take 4 (.take 5 (.take 6 (.take 7 (.take 8 (.take 9 (.take 10 (.take 11 (.take 12 (.take 13 (.force 14 [[13], [8]] (.take 15 (.take 16 (.take 17 (.done))))))))))))))))))
  | 11 => .take 0 (.take 1 (.take 2 (.take 3 (.take 4 (.take 5 (.take 6 (.take 7 (.take 8 (.take 9 (.take 10 (.take 11 (.take 12 (.take 13 (.take 14 (.force 15 [[13], [9]] (.take 16 (.force 17 [] (.done))))))))))))))))))
  | 16 => .take 0 (.take 1 (.take 2 (.take 3 (.take 4 (.take 5 (.take 6 (.take 7 (.take 8 (.take 9 (.force 10 [[9], [4]] (.take 11 (.take 12 (.done)))))))))))))
  | 17 => .take 0 (.take 1 (.take 2 (.take 3 (.take 4 (.take 5 (.take 6 (.take 7 (.take 8 (.take 9 (.take 10 (.take 11 (.take 12 (.take 13 (.take 14 (.force 15 [[13], [9]] (.take 16 (.force 17 [] (.done))))))))))))))))))
  | 22 => .take 0 (.take 1 (.take 2 (.take 3 (.take 4 (.take 5 (.take 6 (.take 7 (.take 8 (.take 9 (.force 10 [[9], [4]] (.take 11 (.take 12 (.done)))))))))))))
  | 23 => .take 0 (.take 1 (.take 2 (.take 3 (.take 4 (.take 5 (.take 6 (.take 7 (.take 8 (.take 9 (.take 10 (.take 11 (.take 12 (.take 13 (.take 14 (.force 15 [[13], [9]] (.take 16 (.force 17 [] (.done))))))))))))))))))
  | _ => .done

def o102 : Nat → Ct
  | 1 => .take 0 (.take 1 (.take 2 (.take 3 (.take 4 (.take 5 (.take 6 (.take 7 (.take 8 (.take 9 (.take 10 (.take 11 (.take 12 (.force 13 [[11], [7]] (.take 14 (.force 15 [] (.done))))))))))))))))
  | 3 => .take 0 (.take 1 (.take 2 (.take 3 (.take 4 (.take 5 (.take 6 (.take 7 (.take 8 (.take 9 (.take 10 (.take 11 (.take 12 (.force 13 [[12], [8]] (.take 14 (.take 15 (.take 16 (.done)))))))))))))))))
  | 5 => .take 0 (.take 1 (.take 2 (.take 3 (.take 4 (.take 5 (.take 6 (.take 7 (.take 8 (.take 9 (.take 10 (.take 11 (.take 12 (.force 13 [[12], [8]] (.take 14 (.take 15 (.done))))))))))))))))
  | 8 => .take 0 (.take 1 (.take 2 (.take 3 (.take 4 (.take 5 (.take 6 (.take 7 (.take 8 (.take 9 (.take 10 (.take 11 (.take 12 (.force 13 [[11], [7]] (.take 14 (.force 15 [] (.done))))))))))))))))
  | _ => .done

def o103 : Nat → Ct
  | 1 => .take 0 (.take 1 (.take 2 (.take 3 (.take 4 (.take 5 (.take 6 (.take 7 (.take 8 (.take 9 (.take 10 (.take 11 (.take 12 (.force 13 [[11], [7]] (.take 14 (.force 15 [] (.done))))))))))))))))
  | 3 => .take 0 (.take 1 (.take 2 (.take 3 (.take 4 (.take 5 (.take 6 (.take 7 (.take 8 (.take 9 (.take 10 (.take 11 (.take 12 (.force 13 [[12], [8]] (.take 14 (.take 15 (.done))))))))))))))))
  | 5 => .take 0 (.take 1 (.take 2 (.take 3 (.take 4 (.take 5 (.take 6 (.take 7 (.take 8 (.take 9 (.take 10 (.take 11 (.take 12 (.force 13 [[12], [8]] (.take 14 (.take 15 (.take 16 (.done)))))))))))))))))
  | 8 => .take 0 (.take 1 (.take 2 (.take 3 (.take 4 (.take 5 (.take 6 (.take 7 (.take 8 (.take 9 (.take 10 (.take 11 (.take 12 (.force 13 [[11], [7]] (.take 14 (.force 15 [] (.done))))))))))))))))
  | 10 => .take 0 (.take 1 (.take 2 (.take 3 (.take 4 (.take 5 (.take 6 (.take 7 (.take 8 (.take 9 (.take 10 (.take 11 (.take 12 (.force 13 [[11], [7]] (.take 14 (.force 15 [] (.done))))))))))))))))
  | 13 => .take 0 (.take 1 (.take 2 (.take 3 (.take 4 (.take 5 (.take 6 (.take 7 (.take 8 (.take 9 (.take 10 (.take 11 (.take 12 (.force 13 [[12], [8]] (.take 14 (.take 15 (.done))))))))))))))))
  | 15 => .take 0 (.take 1 (.take 2 (.take 3 (.take 4 (.take 5 (.take 6 (.take 7 (.take 8 (.take 9 (.take 10 (.take 11 (.take 12 (.force 13 [[12], [8]] (.take 14 (.take 15 (.take 16 (.done)))))))))))))))))
  | 18 => .take 0 (.take 1 (.take 2 (.take 3 (.take 4 (.take 5 (.take 6 (.take 7 (.take 8 (.take 9 (.take 10 (.take 11 (.take 12 (.force 13 [[11], [7]] (.take 14 (.force 15 [] (.done))))))))))))))))
  | 21 => .take 0 (.take 1 (.take 2 (.take 3 (.take 4 (.take 5 (.take 6 (.take 7 (.take 8 (.take 9 (.take 10 (.take 11 (.take 12 (.force 13 [[11], [7]] (.take 14 (.force 15 [] (.done))))))))))))))))
  | _ => .done

def o110 : Nat → Ct
  | 3 => .take 0 (.take 1 (.take 2 (.take 3 (.take 4 (.take 5 (.take 6 (.take 7 (.take 8 (.take 9 (.take 10 (.take 11 (.take 12 (.take 13 (.take 14 (.take 15 (.take 16 (.take 17 (.take 18 (.force 19 [[18], [11]] (.take 20 (.take 21 (.done))))))))))))))))))))))
  | 5 => .take 0 (.take 1 (.take 2 (.take 3 (.take 4 (.take 5 (.take 6 (.take 7 (.take 8 (.take 9 (.take 10 (.take 11 (.take 12 (.force 13 [[12], [6]] (.take 14 (.take 15 (.done))))))))))))))))
  | 6 => .take 0 (.take 1 (.take 2 (.take 3 (.take 4 (.take 5 (.take 6 (.take 7 (.take 8 (.take 9 (.take 10 (.take 11 (.take 12 (.take 13 (.take 14 (.take 15 (.take 16 (.take 17 (.take 18 (.take 19 (.take 20 (.force 21 [[19], [13]] (.take 22 (.force 23 [] (.done))))))))))))))))))))))))
  | _ => .done

def o112 : Nat → Ct
  | 1 => .take 0 (.take 1 (.take 2 (.take 3 (.take 4 (.take 5 (.take 6 (.take 7 (.take 8 (.force 9 [[5], [2]] (.done))))))))))
  | 2 => .take 0 (.take 1 (.take 2 (.take 3 (.take 4 (.take 5 (.take 6 (.take 7 (.take 8 (.force 9 [[5], [2]] (.done))))))))))
  | 3 => .take 0 (.take 1 (.take 2 (.take 3 (.take 4 (.take 5 (.take 6 (.take 7 (.take 8 (.force 9 [[5], [2]] (.done))))))))))
  | _ => .done

def o115 : Nat → Ct
  | 1 => .take 0 (.take 1 (.take 2 (.take 3 (.take 4 (.take 5 (.take 6 (.take 7 (.take 8 (.force 9 [[8], [4]] (.take 10 (.done)))))))))))
  | _ => .done

theorem k3 : okFn Try.prog 3 o3 = true := by kernel_rfl
theorem k4 : okFn Try.prog 4 o4 = true := by kernel_rfl
theorem k5 : okFn Try.prog 5 oN = true := by kernel_rfl
theorem k6 : okFn Try.prog 6 o6 = true := by kernel_rfl
theorem k7 : okFn Try.prog 7 o7 = true := by kernel_rfl
theorem k8 : okFn Try.prog 8 o8 = true := by kernel_rfl
theorem k9 : okFn Try.prog 9 oN = true := by kernel_rfl
theorem k10 : okFn Try.prog 10 oN = true := by kernel_rfl
theorem k11 : okFn Try.prog 11 oN = true := by kernel_rfl
theorem k12 : okFn Try.prog 12 o12 = true := by kernel_rfl
theorem k13 : okFn Try.prog 13 o13 = true := by kernel_rfl
theorem k14 : okFn Try.prog 14 oN = true := by kernel_rfl
theorem k15 : okFn Try.prog 15 oN = true := by kernel_rfl
theorem k16 : okFn Try.prog 16 o16 = true := by kernel_rfl
theorem k17 : okFn Try.prog 17 o17 = true := by kernel_rfl
theorem k18 : okFn Try.prog 18 oN = true := by kernel_rfl
theorem k19 : okFn Try.prog 19 oN = true := by kernel_rfl
theorem k20 : okFn Try.prog 20 oN = true := by kernel_rfl
theorem k21 : okFn Try.prog 21 o21 = true := by kernel_rfl
theorem k22 : okFn Try.prog 22 oN = true := by kernel_rfl
theorem k23 : okFn Try.prog 23 oN = true := by kernel_rfl
theorem k24 : okFn Try.prog 24 oN = true := by kernel_rfl
theorem k25 : okFn Try.prog 25 oN = true := by kernel_rfl
theorem k26 : okFn Try.prog 26 o26 = true := by kernel_rfl
theorem k27 : okFn Try.prog 27 o27 = true := by kernel_rfl
theorem k28 : okFn Try.prog 28 oN = true := by kernel_rfl
theorem k29 : okFn Try.prog 29 oN = true := by kernel_rfl
theorem k30 : okFn Try.prog 30 oN = true := by kernel_rfl
theorem k31 : okFn Try.prog 31 oN = true := by kernel_rfl
theorem k32 : okFn Try.prog 32 o32 = true := by kernel_rfl
theorem k33 : okFn Try.prog 33 o33 = true := by kernel_rfl
theorem k34 : okFn Try.prog 34 oN = true := by kernel_rfl
theorem k35 : okFn Try.prog 35 oN = true := by kernel_rfl
theorem k36 : okFn Try.prog 36 o36 = true := by kernel_rfl
theorem k37 : okFn Try.prog 37 oN = true := by kernel_rfl
theorem k38 : okFn Try.prog 38 oN = true := by kernel_rfl
theorem k39 : okFn Try.prog 39 oN = true := by kernel_rfl
theorem k40 : okFn Try.prog 40 oN = true := by kernel_rfl
theorem k41 : okFn Try.prog 41 oN = true := by kernel_rfl
theorem k42 : okFn Try.prog 42 oN = true := by kernel_rfl
theorem k43 : okFn Try.prog 43 oN = true := by kernel_rfl
theorem k44 : okFn Try.prog 44 oN = true := by kernel_rfl
theorem k45 : okFn Try.prog 45 o45 = true := by kernel_rfl
theorem k46 : okFn Try.prog 46 o46 = true := by kernel_rfl
theorem k47 : okFn Try.prog 47 o47 = true := by kernel_rfl
theorem k48 : okFn Try.prog 48 o48 = true := by kernel_rfl
theorem k49 : okFn Try.prog 49 oN = true := by kernel_rfl
theorem k50 : okFn Try.prog 50 o50 = true := by kernel_rfl
theorem k51 : okFn Try.prog 51 o51 = true := by kernel_rfl
theorem k52 : okFn Try.prog 52 o52 = true := by kernel_rfl
theorem k53 : okFn Try.prog 53 o53 = true := by kernel_rfl
theorem k54 : okFn Try.prog 54 o54 = true := by kernel_rfl
theorem k55 : okFn Try.prog 55 oN = true := by kernel_rfl
theorem k56 : okFn Try.prog 56 oN = true := by kernel_rfl
theorem k57 : okFn Try.prog 57 oN = true := by kernel_rfl
theorem k58 : okFn Try.prog 58 o58 = true := by kernel_rfl
theorem k59 : okFn Try.prog 59 oN = true := by kernel_rfl
theorem k60 : okFn Try.prog 60 oN = true := by kernel_rfl
theorem k61 : okFn Try.prog 61 o61 = true := by kernel_rfl
theorem k62 : okFn Try.prog 62 oN = true := by kernel_rfl
theorem k63 : okFn Try.prog 63 oN = true := by kernel_rfl
theorem k64 : okFn Try.prog 64 o64 = true := by kernel_rfl
theorem k65 : okFn Try.prog 65 oN = true := by kernel_rfl
theorem k66 : okFn Try.prog 66 oN = true := by kernel_rfl
theorem k67 : okFn Try.prog 67 oN = true := by kernel_rfl
theorem k68 : okFn Try.prog 68 oN = true := by kernel_rfl
theorem k69 : okFn Try.prog 69 oN = true := by kernel_rfl
theorem k70 : okFn Try.prog 70 oN = true := by kernel_rfl
theorem k71 : okFn Try.prog 71 oN = true := by kernel_rfl
theorem k72 : okFn Try.prog 72 oN = true := by kernel_rfl
theorem k73 : okFn Try.prog 73 oN = true := by kernel_rfl
theorem k74 : okFn Try.prog 74 o74 = true := by kernel_rfl
theorem k75 : okFn Try.prog 75 oN = true := by kernel_rfl
theorem k76 : okFn Try.prog 76 oN = true := by kernel_rfl
theorem k77 : okFn Try.prog 77 oN = true := by kernel_rfl
theorem k78 : okFn Try.prog 78 oN = true := by kernel_rfl
theorem k79 : okFn Try.prog 79 oN = true := by kernel_rfl
theorem k80 : okFn Try.prog 80 oN = true := by kernel_rfl
theorem k81 : okFn Try.prog 81 oN = true := by kernel_rfl
theorem k82 : okFn Try.prog 82 oN = true := by kernel_rfl
theorem k83 : okFn Try.prog 83 oN = true := by kernel_rfl
theorem k84 : okFn Try.prog 84 oN = true := by kernel_rfl
theorem k85 : okFn Try.prog 85 oN = true := by kernel_rfl
theorem k86 : okFn Try.prog 86 oN = true := by kernel_rfl

end Go.Proofs.Ythckkoledhjmeaa.Ev
