/-
  The document's rows for a ledger hold.
-/
import Derived.Test.YthckkoledhjmeaaXL
namespace Go.Proofs.Ythckkoledhjmeaa.Ev
open Go

theorem e22ok : EntsOk Try.prog e22 := ⟨k22, s10ok, s12ok, s14ok, s16ok, s17ok, k20, k21, trivial⟩

theorem entered22 : CallsA Try.prog 22 [] [] fun r H' => r = .c (.bool true) ∧ H' = [] := by
  refine calls_of fine e22ok 2 22 _ _ ?_
  show t22.sat _ _
  rw [t22_eq]
  have h1 : (newL 2 7).Ok := okL_new (by decide) (by decide) (by decide) (by decide)
  simp only [T.sat, true_implies, false_implies, implies_true, true_and, and_true, Bool.true_eq_false, Bool.false_eq_true]
  refine ⟨h1, okL_send h1 _ _ _, ?_, ?_, ⟨?_, ?_, ?_⟩, ⟨?_, ?_, ?_⟩⟩
  · constructor <;> simp
  · constructor <;> simp
  · constructor <;> simp
  · simp [I64]
  · simp [I64]
  · decide
  · exact pkRow_G _ _
  · intro j hj
    have : j = 0 := by simp [chunksOf] at hj; exact hj
    subst this
    rfl

theorem s22ok : (Ent.summ s22).ok Try.prog 22 := by
  intro args H Q hq
  unfold s22 at hq
  split at hq
  · exact CallsA.pure (args0 := []) rfl rfl (fun _ => rfl) entered22 hq
  · exact hq.elim

end Go.Proofs.Ythckkoledhjmeaa.Ev
