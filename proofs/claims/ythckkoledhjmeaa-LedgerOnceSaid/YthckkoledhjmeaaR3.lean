/-
  The statement LedgerDoes: whatever the room, the first number and the script, the program's ledger answers as the document's; no condition.
-/
import Derived.Test.YthckkoledhjmeaaRows
import Derived.Test.YthckkoledhjmeaaXP
import Derived.Test.YthckkoledhjmeaaXN
import Derived.ProofKit
import Derived.OpenShut
import Derived.ShutString
import Derived.ChangeOld
import Derived.SizedLaws
namespace Go.Proofs.Ythckkoledhjmeaa.ledgerDoes
open Go Go.ChangeShapes Go.WideShapes Go.ChangeAt Go.RowKit Go.Proofs.Ythckkoledhjmeaa.Ev

theorem own : ownKnob Try.prog.godebug = none := by kernel_rfl
theorem laidOut : laidOutB Try.prog = true := by kernel_rfl

/-- What the script's cells hold. -/
def stepAt (W : World) (b o : Nat) (i : Nat) : Stp := ⟨intAt W ⟨b, o + i * 5 + 0, none⟩, intAt W ⟨b, o + i * 5 + 1, none⟩, intAt W ⟨b, o + i * 5 + 2, none⟩, intAt W ⟨b, o + i * 5 + 3, none⟩, intAt W ⟨b, o + i * 5 + 4, none⟩⟩

noncomputable def fs32 : Array Field := match Try.prog.underlying 32 with | some (.struct fs) => fs | _ => #[]
theorem und32 : Try.prog.underlying 32 = some (.struct fs32) := by kernel_rfl
theorem one32 : Deep.oneCellFields Try.prog fs32 = true := by kernel_rfl
theorem size32 : fs32.size = 5 := by kernel_rfl
theorem cells32 : Try.prog.cellsOf 32 = fs32.size := by kernel_rfl
theorem types32 : fs32.toList.map (·.type) = [3, 3, 3, 3, 22] := by kernel_rfl

theorem intAt_of {W : World} {a : Addr} {k : IntKind} {n : Int} (h : W.cell? a = some (.int k n)) : intAt W a = n := by unfold intAt; rw [h]

set_option maxRecDepth 100000 in
/-- A script, as it came in, is a row of steps. -/
theorem script {H : Type} {enc : TypeId × Value → H} {W : World} {base : Nat} {a : Option Addr} {len cap : Nat} {d : DataW H} {p : List MemPlace}
    (hv : Value.okWide Try.prog W .any base 23 (.slice a len cap)) (h : DataW.Trod enc Try.prog W 0 (fun _ => true) true 23 (.slice a len cap) d p) :
    ∃ f : Nat → Stp, RowIn W 5 a len cap (stF f) ∧ ∀ j, j < len → (f j).Ok := by
  obtain ⟨fuel, hf⟩ := h
  rcases open_slice_fields Try.underlying23 und32 one32 cells32 hf with hcs | ⟨x, l, c, hcs, hlc, hfields⟩
  · simp [Value.cells] at hcs
    obtain ⟨rfl, rfl, rfl⟩ := hcs
    exact ⟨fun _ => ⟨0, 0, 0, 0, 0⟩, .inl ⟨rfl, rfl, rfl⟩, fun j hj => by omega⟩
  · simp [Value.cells] at hcs
    obtain ⟨rfl, rfl, rfl⟩ := hcs
    obtain ⟨h1, h2⟩ := okWide_addr Try.underlying23 hv
    obtain ⟨b, o, sp⟩ := x
    simp only at h1 h2
    subst h1
    rw [size32] at hfields
    have cell : ∀ i, i < len → ∀ (j : Nat) (T : TypeId) (k : IntKind), (fs32.toList.map (·.type))[j]? = some T → Try.prog.underlying T = some (.int k) → ∃ n, W.cell? ⟨b, o + i * 5 + j, none⟩ = some (.int k n) ∧ (Lit.int k n).wf = true := by
      intro i hi j T k hj hT
      rw [List.getElem?_map, Array.getElem?_toList] at hj
      obtain ⟨f, hfj, rfl⟩ := Option.map_eq_some_iff.1 hj
      obtain ⟨v, n, y, hc, ht⟩ := hfields i hi j f hfj
      obtain ⟨n, hn, _, hw⟩ := DataW.trod_int hT ht
      simp only [List.cons.injEq, and_true] at hn
      subst hn
      rw [addr_add] at hc
      exact ⟨n, by rw [Nat.add_assoc]; exact hc, hw⟩
    rw [types32] at cell
    refine ⟨stepAt W b o, .inr ⟨b, o, rfl, hlc, h2, fun i hi j hj => ?_⟩, fun i hi => ?_⟩
    · obtain ⟨n0, c0, _⟩ := cell i hi 0 3 .i64 rfl Try.underlying3
      obtain ⟨n1, c1, _⟩ := cell i hi 1 3 .i64 rfl Try.underlying3
      obtain ⟨n2, c2, _⟩ := cell i hi 2 3 .i64 rfl Try.underlying3
      obtain ⟨n3, c3, _⟩ := cell i hi 3 3 .i64 rfl Try.underlying3
      obtain ⟨n4, c4, _⟩ := cell i hi 4 22 .u64 rfl Try.underlying22
      simp only [stF, Stp.vals, stepAt, intAt_of c0, intAt_of c1, intAt_of c2, intAt_of c3, intAt_of c4]
      rcases j with _ | _ | _ | _ | _ | j
      · exact c0
      · exact c1
      · exact c2
      · exact c3
      · exact c4
      · omega
    · obtain ⟨n2, c2, w2⟩ := cell i hi 2 3 .i64 rfl Try.underlying3
      obtain ⟨n3, c3, w3⟩ := cell i hi 3 3 .i64 rfl Try.underlying3
      exact ⟨by simp only [stepAt, intAt_of c3]; exact wf_i64 w3, by simp only [stepAt, intAt_of c2]; exact wf_i64 w2⟩

theorem stF_len (f : Nat → Stp) (i : Nat) : (stF f i).length = 5 := rfl
theorem stF_one (f : Nat → Stp) (i : Nat) : ∀ v ∈ stF f i, v.oneCell' = true := by
  intro v hv
  simp only [stF, Stp.vals, List.mem_cons, List.not_mem_nil, or_false] at hv
  rcases hv with rfl | rfl | rfl | rfl | rfl <;> rfl

theorem walk (room first : Int) (a : Option Addr) (len cap : Nat) (f : Nat → Stp) (W : World) (hr : RowIn W 5 a len cap (stF f)) (hf : ∀ j, j < len → (f j).Ok) (h1 : 0 ≤ first) (h2 : first ≤ 18446744073709551615) :
    Calls Try.prog 3 #[.int .i64 room, .int .u64 first, .slice a len cap] W fun e w' => e = .returned (.bool true) ∧ Below W.heap.size W w' := by
  obtain ⟨E, hrep, hc, hok, hno⟩ := ro_rep (by decide) hr (stF_len f) (stF_one f)
  have := walk_of (does3 room first len 0 f hf h1 h2) hrep (by
    intro x hx
    simp only [List.mem_cons, List.not_mem_nil, or_false] at hx
    rcases hx with rfl | rfl | rfl
    · exact ⟨Nat.zero_le _, ok_s.2 trivial⟩
    · exact ⟨Nat.zero_le _, ok_s.2 trivial⟩
    · exact ⟨Nat.le_refl _, ok_s.2 hok⟩) hno (fun r H' h => h)
  have e1 : ([AV.d (.int .i64 room), AV.d (.int .u64 first), .e (.s (.sl 0 5 0 len 0))].map (AV.conc E)).toArray = #[.int .i64 room, .int .u64 first, .slice a len cap] := by
    rw [← hc]; rfl
  rw [e1] at this
  exact this

set_option maxRecDepth 1000000 in
theorem lifted (os : Os) (started : os.Started) (H : Type) (enc : TypeId × Value → H) :
    ReturnsInHanded {} Try.checked os 3 .any (Rows.ledgerDoesSpec.pre6 enc Try.prog Try.f3 Rows.ledgerDoesRow.domain false) (Rows.ledgerDoesSpec.post enc Try.prog Try.f3 false true false false) := by
  refine returnsInHanded_of_change_sized (C := Try.checked) own started (by kernel_rfl) Try.func3
    (ChangeSpec.witness6 (enc := enc) (C := Try.checked) false ⟨#[], #[.int .i64 0, .int .u64 0, .slice none 0 0], []⟩ 8 (by kernel_rfl) (by kernel_rfl) (by kernel_rfl) (by kernel_rfl)) ?_
  intro W base args ds gs before hval0 hW hcnd hsz0 _
  have hval : ∀ (j : Nat) t v, Try.f3.params[j]? = some t → args[j]? = some v → Value.okWide Try.prog W .any base t v := hval0
  have hW' := hW
  obtain ⟨p, q, hA0, hV, rfl, hfz, hnd⟩ := hW
  have hA : DataW.TrodAll enc Try.prog W 0 (fun _ => true) true Try.f3.params.toList args.toList ds p := hA0
  rw [Try.params3] at hA hval
  obtain ⟨v0, vs0, d0, ds0, p0, q0, hargs, rfl, rfl, h0, r0⟩ := trodAll_cons hA
  obtain ⟨v1, vs1, d1, ds1, p1, q1, rfl, rfl, rfl, h1, r1⟩ := trodAll_cons r0
  obtain ⟨v2, vs2, d2, ds2, p2, q2, rfl, rfl, rfl, h2, r2⟩ := trodAll_cons r1
  obtain ⟨rfl, rfl, rfl⟩ := trodAll_nil r2
  obtain rfl : args = #[v0, v1, v2] := by cases args; simp_all
  obtain ⟨rfl, rfl⟩ := trodVars_none hV
  obtain ⟨a0, rfl, rfl, rfl, w0⟩ := open_int Try.underlying3 (hval 0 3 v0 rfl rfl) h0
  obtain ⟨a1, rfl, rfl, rfl, w1⟩ := open_int Try.underlying22 (hval 1 22 v1 rfl rfl) h1
  obtain ⟨a2, len2, cap2, rfl⟩ := okWide_slice Try.underlying23 (hval 2 23 v2 rfl rfl)
  have k2 := h2
  have lt2 : ∀ x ∈ p2, x.block < W.heap.size := by obtain ⟨m, hm⟩ := k2; exact DataW.trod_lt m _ _ _ hm
  obtain ⟨f, hrow, hf⟩ := script (hval 2 23 _ rfl rfl) h2
  clear hA0 hval0 hsz0
  have hu := wf_u64 w1
  refine (walk a0 a1 a2 len2 cap2 f W hrow hf hu.1 hu.2).mono fun e W' ⟨he, bel⟩ => ?_
  subst he
  exact ⟨_, rfl, _, _, _, [], _, [], hW', trodAll_mk1 (shut_bool Try.underlying4 _), (trodAll_cons_mk (shut_int Try.underlying3 w0) (trodAll_cons_mk (shut_int Try.underlying22 w1) (trodAll_cons_mk (Below.trod laidOut (by kernel_rfl) (of_decide_eq_true (by kernel_rfl)) k2 bel lt2) trodAll_mk0))), rfl, bel.frame _, fun h => by cases h⟩

theorem over : Rows.ledgerDoesRow.holds Try.pinned (OpenSpec.ofChange Rows.ledgerDoesSpec) :=
  OpenClaim.holds_of_wide 3 Try.f3 rfl rfl rfl rfl rfl rfl rfl ⟨rfl, rfl, rfl, rfl, rfl⟩ rfl rfl rfl rfl rfl (by kernel_rfl) Try.func3 (by kernel_rfl)
    (of_decide_eq_true (by kernel_rfl)) (by unfold Func.isWrapper; first | (rw [if_pos (by decide +kernel)]; kernel_rfl) | (rw [if_neg (by decide +kernel)]; exact ⟨rfl, rfl⟩))
    (fun os started H enc _ => lifted os started H enc)

theorem proved : Rows.LedgerDoesSaid := over
#print axioms proved
end Go.Proofs.Ythckkoledhjmeaa.ledgerDoes
namespace Go.Proofs.Ythckkoledhjmeaa
/-- The row, under a short name, for the claim. -/
theorem ledgerDoes_holds : Rows.LedgerDoesSaid := ledgerDoes.proved
end Go.Proofs.Ythckkoledhjmeaa
