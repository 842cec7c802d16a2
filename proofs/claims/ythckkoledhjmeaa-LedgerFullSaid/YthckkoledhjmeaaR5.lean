/-
  The statement LedgerFull: whatever the room, the first number, which packet, and the way, a ledger that is full refuses and sends again; no condition.
-/
import Derived.Test.YthckkoledhjmeaaRows
import Derived.Test.YthckkoledhjmeaaXP
import Derived.Test.YthckkoledhjmeaaXV
import Derived.ProofKit
import Derived.OpenShut
import Derived.ShutString
import Derived.ChangeOld
import Derived.SizedLaws
namespace Go.Proofs.Ythckkoledhjmeaa.ledgerFull
open Go Go.ChangeShapes Go.WideShapes Go.ChangeAt Go.RowKit Go.Proofs.Ythckkoledhjmeaa.Ev

theorem own : ownKnob Try.prog.godebug = none := by kernel_rfl
theorem laidOut : laidOutB Try.prog = true := by kernel_rfl


theorem walk (a0 : Int) (a1 : Int) (a2 : Int) (a3 : Bool) (W : World) (w0 : I64 a0) (w1 : 0 ≤ a1 ∧ a1 ≤ 18446744073709551615) (w2 : I64 a2) :
    Calls Try.prog 5 #[.int .i64 a0, .int .u64 a1, .int .i64 a2, .bool a3] W fun e w' => e = .returned (.bool true) ∧ Below W.heap.size W w' := by
  have hrep : HRep ⟨fun _ => 0, fun _ => 0, fun _ => 0, fun _ => false⟩ [] W := ⟨fun l B hl => by simp at hl, fun l B hl => by simp at hl, fun l l' B B' hl => by simp at hl, fun l k n g hl => by simp at hl⟩
  have := walk_of (full5 a0 a1 a2 a3 w1.1) hrep (by
    intro x hx
    simp only [List.mem_cons, List.not_mem_nil, or_false] at hx
    rcases hx with rfl | rfl | rfl | rfl
    · exact ⟨Nat.zero_le _, ok_s.2 trivial⟩
    · exact ⟨Nat.zero_le _, ok_s.2 trivial⟩
    · exact ⟨Nat.zero_le _, ok_s.2 trivial⟩
    · exact ⟨Nat.zero_le _, ok_s.2 trivial⟩) (fun b ⟨l, B, hl, _⟩ => by simp at hl) (fun r H' h => h)
  exact this

set_option maxRecDepth 1000000 in
theorem lifted (os : Os) (started : os.Started) (H : Type) (enc : TypeId × Value → H) :
    ReturnsInHanded {} Try.checked os 5 .any (Rows.ledgerFullSpec.pre6 enc Try.prog Try.f5 Rows.ledgerFullRow.domain false) (Rows.ledgerFullSpec.post enc Try.prog Try.f5 false true false false) := by
  refine returnsInHanded_of_change_sized (C := Try.checked) own started (by kernel_rfl) Try.func5
    (ChangeSpec.witness6 (enc := enc) (C := Try.checked) false ⟨#[], #[.int .i64 0, .int .u64 0, .int .i64 0, .bool false], []⟩ 8 (by kernel_rfl) (by kernel_rfl) (by kernel_rfl) (by kernel_rfl)) ?_
  intro W base args ds gs before hval0 hW _ hsz0 _
  have hval : ∀ (j : Nat) t v, Try.f5.params[j]? = some t → args[j]? = some v → Value.okWide Try.prog W .any base t v := hval0
  have hW' := hW
  obtain ⟨p, q, hA0, hV, rfl, _, _⟩ := hW
  have hA : DataW.TrodAll enc Try.prog W 0 (fun _ => true) true Try.f5.params.toList args.toList ds p := hA0
  rw [Try.params5] at hA hval
  obtain ⟨v0, vs0, d0, ds0, p0, q0, hargs, rfl, rfl, h0, r0⟩ := trodAll_cons hA
  obtain ⟨v1, vs1, d1, ds1, p1, q1, rfl, rfl, rfl, h1, r1⟩ := trodAll_cons r0
  obtain ⟨v2, vs2, d2, ds2, p2, q2, rfl, rfl, rfl, h2, r2⟩ := trodAll_cons r1
  obtain ⟨v3, vs3, d3, ds3, p3, q3, rfl, rfl, rfl, h3, r3⟩ := trodAll_cons r2
  obtain ⟨rfl, rfl, rfl⟩ := trodAll_nil r3
  obtain rfl : args = #[v0, v1, v2, v3] := by cases args; simp_all
  obtain ⟨rfl, rfl⟩ := trodVars_none hV
  obtain ⟨a0, rfl, rfl, rfl, w0⟩ := open_int Try.underlying3 (hval 0 3 v0 rfl rfl) h0
  obtain ⟨a1, rfl, rfl, rfl, w1⟩ := open_int Try.underlying22 (hval 1 22 v1 rfl rfl) h1
  obtain ⟨a2, rfl, rfl, rfl, w2⟩ := open_int Try.underlying3 (hval 2 3 v2 rfl rfl) h2
  obtain ⟨a3, rfl, rfl, rfl⟩ := open_bool Try.underlying4 (hval 3 4 v3 rfl rfl) h3
  clear hA0 hval0 hsz0
  refine (walk a0 a1 a2 a3 W (wf_i64 w0) (wf_u64 w1) (wf_i64 w2)).mono fun e W' ⟨he, bel⟩ => ?_
  subst he
  exact ⟨_, rfl, _, _, _, [], _, [], hW', trodAll_mk1 (shut_bool Try.underlying4 _), (trodAll_cons_mk (shut_int Try.underlying3 w0) (trodAll_cons_mk (shut_int Try.underlying22 w1) (trodAll_cons_mk (shut_int Try.underlying3 w2) (trodAll_cons_mk (shut_bool Try.underlying4 _) trodAll_mk0)))), rfl, bel.frame _, fun h => by cases h⟩

theorem over : Rows.ledgerFullRow.holds Try.pinned (OpenSpec.ofChange Rows.ledgerFullSpec) :=
  OpenClaim.holds_of_wide 5 Try.f5 rfl rfl rfl rfl rfl rfl rfl ⟨rfl, rfl, rfl, rfl, rfl⟩ rfl rfl rfl rfl rfl (by kernel_rfl) Try.func5 (by kernel_rfl)
    (of_decide_eq_true (by kernel_rfl)) (by unfold Func.isWrapper; first | (rw [if_pos (by decide +kernel)]; kernel_rfl) | (rw [if_neg (by decide +kernel)]; exact ⟨rfl, rfl⟩))
    (fun os started H enc _ => lifted os started H enc)

theorem proved : Rows.LedgerFullSaid := over
#print axioms proved
end Go.Proofs.Ythckkoledhjmeaa.ledgerFull
namespace Go.Proofs.Ythckkoledhjmeaa
/-- The row, under a short name, for the claim. -/
theorem ledgerFull_holds : Rows.LedgerFullSaid := ledgerFull.proved
end Go.Proofs.Ythckkoledhjmeaa
