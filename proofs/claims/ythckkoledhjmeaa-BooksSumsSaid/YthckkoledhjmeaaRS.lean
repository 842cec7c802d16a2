/-
  A script of layer 12, as it came in, is a row of steps.
-/
import Derived.Test.YthckkoledhjmeaaXP
import Derived.Test.YthckkoledhjmeaaCD
import Derived.ProofKit
import Derived.OpenShut
import Derived.ShutString
import Derived.ChangeOld
import Derived.SizedLaws
namespace Go.Proofs.Ythckkoledhjmeaa.books12
open Go Go.ChangeShapes Go.WideShapes Go.ChangeAt Go.RowKit Go.Proofs.Ythckkoledhjmeaa.Ev

/-- What the script's cells hold. -/
def stepAt (W : World) (b o : Nat) (i : Nat) : Sq := ⟨intAt W ⟨b, o + i * 4 + 0, none⟩, intAt W ⟨b, o + i * 4 + 1, none⟩, intAt W ⟨b, o + i * 4 + 2, none⟩, intAt W ⟨b, o + i * 4 + 3, none⟩⟩

noncomputable def fs63 : Array Field := match Try.prog.underlying 63 with | some (.struct fs) => fs | _ => #[]
theorem und63 : Try.prog.underlying 63 = some (.struct fs63) := by kernel_rfl
theorem one63 : Deep.oneCellFields Try.prog fs63 = true := by kernel_rfl
theorem size63 : fs63.size = 4 := by kernel_rfl
theorem cells63 : Try.prog.cellsOf 63 = fs63.size := by kernel_rfl
theorem types63 : fs63.toList.map (·.type) = [3, 3, 3, 22] := by kernel_rfl

theorem intAt_of {W : World} {a : Addr} {k : IntKind} {n : Int} (h : W.cell? a = some (.int k n)) : intAt W a = n := by unfold intAt; rw [h]

set_option maxRecDepth 100000 in
theorem script {H : Type} {enc : TypeId × Value → H} {W : World} {base : Nat} {a : Option Addr} {len cap : Nat} {d : DataW H} {p : List MemPlace}
    (hv : Value.okWide Try.prog W .any base 52 (.slice a len cap)) (h : DataW.Trod enc Try.prog W 0 (fun _ => true) true 52 (.slice a len cap) d p) :
    ∃ f : Nat → Sq, RowIn W 4 a len cap (sqF f) := by
  obtain ⟨fuel, hf⟩ := h
  rcases open_slice_fields Try.underlying52 und63 one63 cells63 hf with hcs | ⟨x, l, c, hcs, hlc, hfields⟩
  · simp [Value.cells] at hcs
    obtain ⟨rfl, rfl, rfl⟩ := hcs
    exact ⟨fun _ => ⟨0, 0, 0, 0⟩, .inl ⟨rfl, rfl, rfl⟩⟩
  · simp [Value.cells] at hcs
    obtain ⟨rfl, rfl, rfl⟩ := hcs
    obtain ⟨h1, h2⟩ := okWide_addr Try.underlying52 hv
    obtain ⟨b, o, sp⟩ := x
    simp only at h1 h2
    subst h1
    rw [size63] at hfields
    have cell : ∀ i, i < len → ∀ (j : Nat) (T : TypeId) (k : IntKind), (fs63.toList.map (·.type))[j]? = some T → Try.prog.underlying T = some (.int k) → ∃ n, W.cell? ⟨b, o + i * 4 + j, none⟩ = some (.int k n) ∧ (Lit.int k n).wf = true := by
      intro i hi j T k hj hT
      rw [List.getElem?_map, Array.getElem?_toList] at hj
      obtain ⟨f, hfj, rfl⟩ := Option.map_eq_some_iff.1 hj
      obtain ⟨v, n, y, hc, ht⟩ := hfields i hi j f hfj
      obtain ⟨n, hn, _, hw⟩ := DataW.trod_int hT ht
      simp only [List.cons.injEq, and_true] at hn
      subst hn
      rw [addr_add] at hc
      exact ⟨n, by rw [Nat.add_assoc]; exact hc, hw⟩
    rw [types63] at cell
    refine ⟨stepAt W b o, .inr ⟨b, o, rfl, hlc, h2, fun i hi j hj => ?_⟩⟩
    obtain ⟨n0, c0, _⟩ := cell i hi 0 3 .i64 rfl Try.underlying3
    obtain ⟨n1, c1, _⟩ := cell i hi 1 3 .i64 rfl Try.underlying3
    obtain ⟨n2, c2, _⟩ := cell i hi 2 3 .i64 rfl Try.underlying3
    obtain ⟨n3, c3, _⟩ := cell i hi 3 22 .u64 rfl Try.underlying22
    simp only [sqF, Sq.vals, stepAt, intAt_of c0, intAt_of c1, intAt_of c2, intAt_of c3]
    rcases j with _ | _ | _ | _ | j
    · exact c0
    · exact c1
    · exact c2
    · exact c3
    · omega

theorem sqF_len (f : Nat → Sq) (i : Nat) : (sqF f i).length = 4 := rfl
theorem sqF_one (f : Nat → Sq) (i : Nat) : ∀ v ∈ sqF f i, v.oneCell' = true := by
  intro v hv
  simp only [sqF, Sq.vals, List.mem_cons, List.not_mem_nil, or_false] at hv
  rcases hv with rfl | rfl | rfl | rfl <;> rfl

/-- A walk over a script, from a contract. -/
theorem walk_script {fn : Nat} (hc : ∀ (room first tmo : Int) (ns z : Nat) (f : Nat → Sq), 0 ≤ first → first ≤ 18446744073709551615 →
      CallsA Try.prog fn [.d (.int .i64 room), .d (.int .u64 first), .d (.int .i64 tmo), .e (.s (.sl 0 4 0 ns z))] [.ro 4 ns (sqF f)] fun r _ => r = .c (.bool true))
    (a0 a1 a2 : Int) (a3 : Option Addr) (len3 cap3 : Nat) (f3 : Nat → Sq) (W : World) (w1 : 0 ≤ a1 ∧ a1 ≤ 18446744073709551615) (w3 : RowIn W 4 a3 len3 cap3 (sqF f3)) :
    Calls Try.prog fn #[.int .i64 a0, .int .u64 a1, .int .i64 a2, .slice a3 len3 cap3] W fun e w' => e = .returned (.bool true) ∧ Below W.heap.size W w' := by
  obtain ⟨E, hrep, hcc, hok, hno⟩ := ro_rep (by decide) w3 (sqF_len f3) (sqF_one f3)
  have := walk_of (hc a0 a1 a2 len3 0 f3 w1.1 w1.2) hrep (by
    intro x hx
    simp only [List.mem_cons, List.not_mem_nil, or_false] at hx
    rcases hx with rfl | rfl | rfl | rfl
    · exact ⟨Nat.zero_le _, ok_s.2 trivial⟩
    · exact ⟨Nat.zero_le _, ok_s.2 trivial⟩
    · exact ⟨Nat.zero_le _, ok_s.2 trivial⟩
    · exact ⟨Nat.le_refl _, ok_s.2 hok⟩) hno (fun r H' h => h)
  have e1 : ([AV.d (.int .i64 a0), .d (.int .u64 a1), .d (.int .i64 a2), .e (.s (.sl 0 4 0 len3 0))].map (AV.conc E)).toArray = #[.int .i64 a0, .int .u64 a1, .int .i64 a2, .slice a3 len3 cap3] := by
    rw [← hcc]; rfl
  rw [e1] at this
  exact this

end Go.Proofs.Ythckkoledhjmeaa.books12
