/-
  The statement LedgerTimes: whatever the room, the sizes, the time and the timeout, what expires was sent so long ago, and what stays was not; no condition.
-/
import Derived.Test.YthckkoledhjmeaaRows
import Derived.Test.YthckkoledhjmeaaXP
import Derived.Test.YthckkoledhjmeaaXT
import Derived.ProofKit
import Derived.OpenShut
import Derived.ShutString
import Derived.ChangeOld
import Derived.SizedLaws
namespace Go.Proofs.Ythckkoledhjmeaa.ledgerTimes
open Go Go.ChangeShapes Go.WideShapes Go.ChangeAt Go.RowKit Go.Proofs.Ythckkoledhjmeaa.Ev

theorem own : ownKnob Try.prog.godebug = none := by kernel_rfl
theorem laidOut : laidOutB Try.prog = true := by kernel_rfl

set_option maxRecDepth 1000000 in
/-- A row of numbers, as it came in. -/
theorem intsIn {H : Type} {enc : TypeId × Value → H} {W : World} {base : Nat} {a : Option Addr} {len cap : Nat} {d : DataW H} {p : List MemPlace}
    (hv : Value.okWide Try.prog W .any base 50 (.slice a len cap)) (h : DataW.Trod enc Try.prog W 0 (fun _ => true) true 50 (.slice a len cap) d p) :
    ∃ f : Nat → Int, RowIn W 1 a len cap (inF f) := by
  obtain ⟨fuel, hf⟩ := h
  rcases open_ints Try.underlying50 Try.underlying3 (by kernel_rfl) hf with ⟨hcs, _⟩ | ⟨x, l, c, zs, hcs, _, hl, _, hz, _, hcell, _⟩
  · simp [Value.cells] at hcs
    obtain ⟨rfl, rfl, rfl⟩ := hcs
    exact ⟨fun _ => 0, .inl ⟨rfl, rfl, rfl⟩⟩
  · simp [Value.cells] at hcs
    obtain ⟨rfl, rfl, rfl⟩ := hcs
    have ha := okWide_addr Try.underlying50 hv
    obtain ⟨b, o, sp⟩ := x
    have h1 : sp = none := ha.1
    subst h1
    refine ⟨fun i => zs.getD i 0, .inr ⟨b, o, rfl, hl, ha.2, fun i hi j hj => ?_⟩⟩
    have hj : j = 0 := by omega
    subst hj
    have := hcell i (by simp at hz; omega)
    rw [addr_add] at this
    rw [Nat.mul_one, Nat.add_zero, this]
    rfl

theorem walk (a0 : Int) (a1 : Option Addr) (len1 cap1 : Nat) (f1 : Nat → Int) (a2 : Int) (a3 : Int) (W : World) (w0 : I64 a0) (w1 : RowIn W 1 a1 len1 cap1 (inF f1)) (w2 : I64 a2) (w3 : I64 a3) :
    Calls Try.prog 6 #[.int .i64 a0, .slice a1 len1 cap1, .int .i64 a2, .int .i64 a3] W fun e w' => e = .returned (.bool true) ∧ Below W.heap.size W w' := by
  obtain ⟨E, hrep, hc, hok, hno⟩ := ro_rep (by decide) w1 (fun _ => rfl) (fun i v hv => by simp only [inF, List.mem_cons, List.not_mem_nil, or_false] at hv; subst hv; rfl)
  have := walk_of (times6 a0 len1 0 f1 a2 a3) hrep (by
    intro x hx
    simp only [List.mem_cons, List.not_mem_nil, or_false] at hx
    rcases hx with rfl | rfl | rfl | rfl
    · exact ⟨Nat.zero_le _, ok_s.2 trivial⟩
    · exact ⟨Nat.le_refl _, ok_s.2 hok⟩
    · exact ⟨Nat.zero_le _, ok_s.2 trivial⟩
    · exact ⟨Nat.zero_le _, ok_s.2 trivial⟩) hno (fun r H' h => h)
  have e1 : ([AV.d (.int .i64 a0), .e (.s (.sl 0 1 0 len1 0)), .d (.int .i64 a2), .d (.int .i64 a3)].map (AV.conc E)).toArray = #[.int .i64 a0, .slice a1 len1 cap1, .int .i64 a2, .int .i64 a3] := by
    rw [← hc]; rfl
  rw [e1] at this
  exact this

set_option maxRecDepth 1000000 in
theorem lifted (os : Os) (started : os.Started) (H : Type) (enc : TypeId × Value → H) :
    ReturnsInHanded {} Try.checked os 6 .any (Rows.ledgerTimesSpec.pre6 enc Try.prog Try.f6 Rows.ledgerTimesRow.domain false) (Rows.ledgerTimesSpec.post enc Try.prog Try.f6 false true false false) := by
  refine returnsInHanded_of_change_sized (C := Try.checked) own started (by kernel_rfl) Try.func6
    (ChangeSpec.witness6 (enc := enc) (C := Try.checked) false ⟨#[], #[.int .i64 0, .slice none 0 0, .int .i64 0, .int .i64 0], []⟩ 8 (by kernel_rfl) (by kernel_rfl) (by kernel_rfl) (by kernel_rfl)) ?_
  intro W base args ds gs before hval0 hW _ hsz0 _
  have hval : ∀ (j : Nat) t v, Try.f6.params[j]? = some t → args[j]? = some v → Value.okWide Try.prog W .any base t v := hval0
  have hW' := hW
  obtain ⟨p, q, hA0, hV, rfl, _, _⟩ := hW
  have hA : DataW.TrodAll enc Try.prog W 0 (fun _ => true) true Try.f6.params.toList args.toList ds p := hA0
  rw [Try.params6] at hA hval
  obtain ⟨v0, vs0, d0, ds0, p0, q0, hargs, rfl, rfl, h0, r0⟩ := trodAll_cons hA
  obtain ⟨v1, vs1, d1, ds1, p1, q1, rfl, rfl, rfl, h1, r1⟩ := trodAll_cons r0
  obtain ⟨v2, vs2, d2, ds2, p2, q2, rfl, rfl, rfl, h2, r2⟩ := trodAll_cons r1
  obtain ⟨v3, vs3, d3, ds3, p3, q3, rfl, rfl, rfl, h3, r3⟩ := trodAll_cons r2
  obtain ⟨rfl, rfl, rfl⟩ := trodAll_nil r3
  obtain rfl : args = #[v0, v1, v2, v3] := by cases args; simp_all
  obtain ⟨rfl, rfl⟩ := trodVars_none hV
  obtain ⟨a0, rfl, rfl, rfl, w0⟩ := open_int Try.underlying3 (hval 0 3 v0 rfl rfl) h0
  obtain ⟨a1, len1, cap1, rfl⟩ := okWide_slice Try.underlying50 (hval 1 50 v1 rfl rfl)
  have k1 := h1
  have lt1 : ∀ x ∈ p1, x.block < W.heap.size := by obtain ⟨m, hm⟩ := k1; exact DataW.trod_lt m _ _ _ hm
  obtain ⟨f1, hrow1⟩ := intsIn (hval 1 50 _ rfl rfl) h1
  obtain ⟨a2, rfl, rfl, rfl, w2⟩ := open_int Try.underlying3 (hval 2 3 v2 rfl rfl) h2
  obtain ⟨a3, rfl, rfl, rfl, w3⟩ := open_int Try.underlying3 (hval 3 3 v3 rfl rfl) h3
  clear hA0 hval0 hsz0
  refine (walk a0 a1 len1 cap1 f1 a2 a3 W (wf_i64 w0) hrow1 (wf_i64 w2) (wf_i64 w3)).mono fun e W' ⟨he, bel⟩ => ?_
  subst he
  exact ⟨_, rfl, _, _, _, [], _, [], hW', trodAll_mk1 (shut_bool Try.underlying4 _), (trodAll_cons_mk (shut_int Try.underlying3 w0) (trodAll_cons_mk (Below.trod laidOut (by kernel_rfl) (of_decide_eq_true (by kernel_rfl)) k1 bel lt1) (trodAll_cons_mk (shut_int Try.underlying3 w2) (trodAll_cons_mk (shut_int Try.underlying3 w3) trodAll_mk0)))), rfl, bel.frame _, fun h => by cases h⟩

theorem over : Rows.ledgerTimesRow.holds Try.pinned (OpenSpec.ofChange Rows.ledgerTimesSpec) :=
  OpenClaim.holds_of_wide 6 Try.f6 rfl rfl rfl rfl rfl rfl rfl ⟨rfl, rfl, rfl, rfl, rfl⟩ rfl rfl rfl rfl rfl (by kernel_rfl) Try.func6 (by kernel_rfl)
    (of_decide_eq_true (by kernel_rfl)) (by unfold Func.isWrapper; first | (rw [if_pos (by decide +kernel)]; kernel_rfl) | (rw [if_neg (by decide +kernel)]; exact ⟨rfl, rfl⟩))
    (fun os started H enc _ => lifted os started H enc)

theorem proved : Rows.LedgerTimesSaid := over
#print axioms proved
end Go.Proofs.Ythckkoledhjmeaa.ledgerTimes
namespace Go.Proofs.Ythckkoledhjmeaa
/-- The row, under a short name, for the claim. -/
theorem ledgerTimes_holds : Rows.LedgerTimesSaid := ledgerTimes.proved
end Go.Proofs.Ythckkoledhjmeaa
