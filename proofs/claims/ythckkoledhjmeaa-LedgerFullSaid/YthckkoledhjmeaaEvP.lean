/-
  The abstract evaluator: what is asked of the program; entries; loops; other names for blocks.
-/
import Derived.Test.YthckkoledhjmeaaEvO
namespace Go.Proofs.Ythckkoledhjmeaa.Ev
open Go

def namesB (P : Program) : Bool := P.funcs.toList.all fun fn => !(fn.name == "runtime.NumGoroutine")

theorem fine : Fine Try.prog where
  name := by
    have h : namesB Try.prog = true := by kernel_rfl
    intro f fn hf
    have := List.all_eq_true.1 h fn (Array.mem_toList_iff.2 (Array.mem_of_getElem? hf))
    simpa using this
  mixed := by kernel_rfl

/-! ### Entries -/

def Ent.ok (P : Program) (f : Nat) : Ent → Prop
  | .stop => True
  | .summ g => ∀ args H Q, (g args H).sat P Q → CallsA P f args H fun r H' => Q (r, H')
  | .body ord _ => okFn P f ord = true

def entL : List (Nat × Ent) → Nat → Ent
  | [], _ => .stop
  | (f, e) :: l, g => match Nat.beq f g with
    | true => e
    | false => entL l g

def EntsOk (P : Program) : List (Nat × Ent) → Prop
  | [] => True
  | (f, e) :: l => e.ok P f ∧ EntsOk P l

theorem entL_ok {P : Program} : ∀ {l : List (Nat × Ent)}, EntsOk P l → ∀ f, (entL l f).ok P f
  | [], _, f => trivial
  | (g, e) :: l, h, f => by
    unfold entL
    split
    · rename_i hb; rw [← Nat.eq_of_beq_eq_true hb]; exact h.1
    · exact entL_ok h.2 f

theorem EntsOk.ent {P : Program} {l : List (Nat × Ent)} (h : EntsOk P l) : EntOk P (entL l) where
  summ f g hg := by have := entL_ok h f; rw [hg] at this; exact this
  body f ord un fn c hg h1 h2 := by have := entL_ok h f; rw [hg] at this; exact okFn_ok this h1 h2

/-- A call, by the entries. -/
theorem calls_of {P : Program} (hP : Fine P) {l : List (Nat × Ent)} (hl : EntsOk P l) (m f : Nat) (args : List AV) (H : Heap) {Q : AV → Heap → Prop} (h : (callT P (entL l) m f args H fun r H' => .ret (r, H')).sat P fun x => Q x.1 x.2) : CallsA P f args H Q :=
  (call_sat (α := AV × Heap) (Q0 := fun x => Q x.1 x.2) hP hl.ent m f args H _ h).mono fun _ _ h => h

end Go.Proofs.Ythckkoledhjmeaa.Ev
