/-
  The document's rows for books hold.
-/
import Derived.Test.YthckkoledhjmeaaCG
import Derived.Test.YthckkoledhjmeaaCD
namespace Go.Proofs.Ythckkoledhjmeaa.Ev
open Go

theorem bst_eta (B : BSt) : (⟨B.L, B.now, rowMi B.ms.length (miG B.ms), B.id, B.tmo⟩ : BSt) = B := by rw [rowMi_miG]

theorem booked25 : CallsA Try.prog 25 [] [] fun r H' => r = .c (.bool true) ∧ H' = [] := by
  refine calls_of fine e25ok 2 25 _ _ ?_
  show t25.sat _ _
  rw [t25_eq]
  have st : ∀ B : BSt, (B.ms.length = B.ms.length ∧ MiRow B.ms.length (miG B.ms)) ∧ (⟨B.L, B.now, rowMi B.ms.length (miG B.ms), B.id, B.tmo⟩ : BSt) = B := fun B => ⟨⟨rfl, miRow_G _ _⟩, bst_eta B⟩
  refine ⟨fun h => (by cases h), fun _ => ⟨⟨⟨rfl, miRow_G _ _⟩, rfl⟩, st _, st _, st _, st _, st _, st _, st _, st _, fun _ => ⟨by omega, by omega, fun _ => ⟨fun _ => ⟨rfl, rfl⟩, fun h => by cases h⟩, fun h => by cases h⟩, fun h => by cases h⟩⟩

theorem s25ok : (Ent.summ s25).ok Try.prog 25 := by
  intro args H Q hq
  unfold s25 at hq
  split at hq
  · exact CallsA.pure (args0 := []) rfl rfl (fun _ => rfl) booked25 hq
  · exact hq.elim

end Go.Proofs.Ythckkoledhjmeaa.Ev
