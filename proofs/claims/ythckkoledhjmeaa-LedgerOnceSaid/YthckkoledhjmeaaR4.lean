/-
  The statement LedgerOnce: whatever the room, the first number and the script, each packet that was sent is taken once, expires once, or is on its way; no condition.
-/
import Derived.Test.YthckkoledhjmeaaRows
import Derived.Test.YthckkoledhjmeaaXP
import Derived.Test.YthckkoledhjmeaaL4
import Derived.Test.YthckkoledhjmeaaR3
import Derived.ProofKit
import Derived.OpenShut
import Derived.ShutString
import Derived.ChangeOld
import Derived.SizedLaws
namespace Go.Proofs.Ythckkoledhjmeaa.ledgerOnce
open Go Go.ChangeShapes Go.WideShapes Go.ChangeAt Go.RowKit Go.Proofs.Ythckkoledhjmeaa.Ev

theorem own : ownKnob Try.prog.godebug = none := by kernel_rfl
theorem laidOut : laidOutB Try.prog = true := by kernel_rfl


theorem walk (a0 : Int) (a1 : Int) (a2 : Option Addr) (len2 cap2 : Nat) (f2 : Nat → Stp) (W : World) (w0 : I64 a0) (w1 : 0 ≤ a1 ∧ a1 ≤ 18446744073709551615) (w2 : RowIn W 5 a2 len2 cap2 (stF f2)) (y2 : ∀ j, j < len2 → (f2 j).Ok) :
    Calls Try.prog 4 #[.int .i64 a0, .int .u64 a1, .slice a2 len2 cap2] W fun e w' => e = .returned (.bool true) ∧ Below W.heap.size W w' := by
  obtain ⟨E, hrep, hc, hok, hno⟩ := ro_rep (by decide) w2 (ledgerDoes.stF_len f2) (ledgerDoes.stF_one f2)
  have := walk_of (once4 a0 a1 len2 0 f2 y2 w1.1 w1.2) hrep (by
    intro x hx
    simp only [List.mem_cons, List.not_mem_nil, or_false] at hx
    rcases hx with rfl | rfl | rfl
    · exact ⟨Nat.zero_le _, ok_s.2 trivial⟩
    · exact ⟨Nat.zero_le _, ok_s.2 trivial⟩
    · exact ⟨Nat.le_refl _, ok_s.2 hok⟩) hno (fun r H' h => h)
  have e1 : ([AV.d (.int .i64 a0), .d (.int .u64 a1), .e (.s (.sl 0 5 0 len2 0))].map (AV.conc E)).toArray = #[.int .i64 a0, .int .u64 a1, .slice a2 len2 cap2] := by
    rw [← hc]; rfl
  rw [e1] at this
  exact this

set_option maxRecDepth 1000000 in
theorem lifted (os : Os) (started : os.Started) (H : Type) (enc : TypeId × Value → H) :
    ReturnsInHanded {} Try.checked os 4 .any (Rows.ledgerOnceSpec.pre6 enc Try.prog Try.f4 Rows.ledgerOnceRow.domain false) (Rows.ledgerOnceSpec.post enc Try.prog Try.f4 false true false false) := by
  refine returnsInHanded_of_change_sized (C := Try.checked) own started (by kernel_rfl) Try.func4
    (ChangeSpec.witness6 (enc := enc) (C := Try.checked) false ⟨#[], #[.int .i64 0, .int .u64 0, .slice none 0 0], []⟩ 8 (by kernel_rfl) (by kernel_rfl) (by kernel_rfl) (by kernel_rfl)) ?_
  intro W base args ds gs before hval0 hW _ hsz0 _
  have hval : ∀ (j : Nat) t v, Try.f4.params[j]? = some t → args[j]? = some v → Value.okWide Try.prog W .any base t v := hval0
  have hW' := hW
  obtain ⟨p, q, hA0, hV, rfl, _, _⟩ := hW
  have hA : DataW.TrodAll enc Try.prog W 0 (fun _ => true) true Try.f4.params.toList args.toList ds p := hA0
  rw [Try.params4] at hA hval
  obtain ⟨v0, vs0, d0, ds0, p0, q0, hargs, rfl, rfl, h0, r0⟩ := trodAll_cons hA
  obtain ⟨v1, vs1, d1, ds1, p1, q1, rfl, rfl, rfl, h1, r1⟩ := trodAll_cons r0
  obtain ⟨v2, vs2, d2, ds2, p2, q2, rfl, rfl, rfl, h2, r2⟩ := trodAll_cons r1
  obtain ⟨rfl, rfl, rfl⟩ := trodAll_nil r2
  obtain rfl : args = #[v0, v1, v2] := by cases args; simp_all
  obtain ⟨rfl, rfl⟩ := trodVars_none hV
  obtain ⟨a0, rfl, rfl, rfl, w0⟩ := open_int Try.underlying3 (hval 0 3 v0 rfl rfl) h0
  obtain ⟨a1, rfl, rfl, rfl, w1⟩ := open_int Try.underlying22 (hval 1 22 v1 rfl rfl) h1
  obtain ⟨a2, len2, cap2, rfl⟩ := okWide_slice Try.underlying23 (hval 2 23 v2 rfl rfl)
  have k2 := h2
  have lt2 : ∀ x ∈ p2, x.block < W.heap.size := by obtain ⟨m, hm⟩ := k2; exact DataW.trod_lt m _ _ _ hm
  obtain ⟨f2, hrow2, hf2⟩ := ledgerDoes.script (hval 2 23 _ rfl rfl) h2
  clear hA0 hval0 hsz0
  refine (walk a0 a1 a2 len2 cap2 f2 W (wf_i64 w0) (wf_u64 w1) hrow2 hf2).mono fun e W' ⟨he, bel⟩ => ?_
  subst he
  exact ⟨_, rfl, _, _, _, [], _, [], hW', trodAll_mk1 (shut_bool Try.underlying4 _), (trodAll_cons_mk (shut_int Try.underlying3 w0) (trodAll_cons_mk (shut_int Try.underlying22 w1) (trodAll_cons_mk (Below.trod laidOut (by kernel_rfl) (of_decide_eq_true (by kernel_rfl)) k2 bel lt2) trodAll_mk0))), rfl, bel.frame _, fun h => by cases h⟩

theorem over : Rows.ledgerOnceRow.holds Try.pinned (OpenSpec.ofChange Rows.ledgerOnceSpec) :=
  OpenClaim.holds_of_wide 4 Try.f4 rfl rfl rfl rfl rfl rfl rfl ⟨rfl, rfl, rfl, rfl, rfl⟩ rfl rfl rfl rfl rfl (by kernel_rfl) Try.func4 (by kernel_rfl)
    (of_decide_eq_true (by kernel_rfl)) (by unfold Func.isWrapper; first | (rw [if_pos (by decide +kernel)]; kernel_rfl) | (rw [if_neg (by decide +kernel)]; exact ⟨rfl, rfl⟩))
    (fun os started H enc _ => lifted os started H enc)

theorem proved : Rows.LedgerOnceSaid := over
#print axioms proved
end Go.Proofs.Ythckkoledhjmeaa.ledgerOnce
namespace Go.Proofs.Ythckkoledhjmeaa
/-- The row, under a short name, for the claim. -/
theorem ledgerOnce_holds : Rows.LedgerOnceSaid := ledgerOnce.proved
end Go.Proofs.Ythckkoledhjmeaa
