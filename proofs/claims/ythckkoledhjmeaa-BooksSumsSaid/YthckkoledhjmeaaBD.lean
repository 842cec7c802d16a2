/-
  An account is right: the program and the document say the same.
-/
import Derived.Test.YthckkoledhjmeaaBC
namespace Go.Proofs.Ythckkoledhjmeaa.Ev
open Go

theorem e65ok : EntsOk Try.prog e65 := ⟨k65, k86, k82, s93ok, s94ok, s95ok, trivial⟩
theorem e91ok : EntsOk Try.prog e91 := ⟨k91, k40, k106, s107ok, trivial⟩

theorem is65 (m : Mi) : CallsA Try.prog 65 [.e (.agg m.cells)] [] fun r H' => r = .d (.bool (decide m.Is)) ∧ H' = [] := by
  refine mi_bool e65ok 3 m _ ?_
  show (t65 m).sat _ _
  rw [t65_eq]
  repeat' first
    | (refine And.intro (a := _ → _) ?_ ?_ <;> intro _)
    | refine And.intro trivial ?_
    | (refine And.intro (a := Mi.CntP m) ?_ ?_; · simp only [decide_eq_true_eq] at *; assumption)
  all_goals
    simp only [decide_eq_true_eq, decide_eq_false_iff_not, bne_iff_ne, bne_eq_false_iff_eq, ne_eq] at *
    refine leafB ?_
    first
      | exact decide_eq_true ⟨by unfold Mi.TimP; omega, by assumption, by assumption, And.left ‹_ ∧ _›, And.right ‹_ ∧ _›⟩
      | exact decide_eq_false fun ⟨h1, h2, h3, h4, h5⟩ => by
          first
            | exact absurd h2 ‹_›
            | exact absurd h3 ‹_›
            | exact (‹¬ (m.NumP ∧ m.SumP)›) ⟨h4, h5⟩
            | (unfold Mi.TimP at h1; omega)

set_option maxHeartbeats 4000000 in
theorem is91 (m : Mi) : CallsA Try.prog 91 [.e (.agg m.cells)] [] fun r H' => r = .d (.bool (decide m.Is)) ∧ H' = [] := by
  refine mi_bool e91ok 3 m _ ?_
  show (t91 m).sat _ _
  rw [t91_eq]
  by_cases hc : m.CntP
  · have hc' := hc
    unfold Mi.CntP at hc'
    have w0 : IntKind.i64.wrap (m.packets - m.hits) = m.packets - m.hits := wrap64 (by unfold I64; omega)
    have w1 : IntKind.i64.wrap (9000 * m.packets) = m.packets * 9000 := by rw [wrap64 (by unfold I64; omega)]; omega
    have w2 : IntKind.i64.wrap (9000 * m.hits) = m.hits * 9000 := by rw [wrap64 (by unfold I64; omega)]; omega
    have w3 : IntKind.i64.wrap (9000 * m.drops) = m.drops * 9000 := by rw [wrap64 (by unfold I64; omega)]; omega
    have w4 : IntKind.i64.wrap (m.hits + m.drops) = m.hits + m.drops := wrap64 (by unfold I64; omega)
    rw [w0, w1, w2, w3, w4]
    clear w0 w1 w2 w3 w4
    repeat' first
      | (refine And.intro (a := _ → _) ?_ ?_ <;> intro _)
      | (refine And.intro (a := _ ∧ _) ?_ ?_; · simp only [decide_eq_true_eq] at *; omega)
    all_goals
      simp only [decide_eq_true_eq, decide_eq_false_iff_not, bne_iff_ne, bne_eq_false_iff_eq, ne_eq, IntKind.wrap_i64, beq_iff_eq, beq_eq_false_iff_ne] at *
      refine leafB ?_
      first
        | exact decide_eq_true ⟨by unfold Mi.TimP; omega, hc, by unfold Mi.BytP; omega, by unfold Mi.NumP; omega, by assumption⟩
        | exact decide_eq_false fun ⟨h1, h2, h3, h4, h5⟩ => by
            first
              | exact absurd h5 ‹_›
              | (unfold Mi.TimP at h1; omega)
              | (unfold Mi.NumP at h4; omega)
              | (unfold Mi.BytP at h3; omega)
  · have w0 : IntKind.i64.wrap (m.packets - m.hits) = m.packets - m.hits ∨ ¬ (0 ≤ m.packets ∧ m.packets ≤ 1048576 ∧ 0 ≤ m.hits ∧ m.hits ≤ m.packets) := by
      by_cases hp : 0 ≤ m.packets ∧ m.packets ≤ 1048576 ∧ 0 ≤ m.hits ∧ m.hits ≤ m.packets
      · exact .inl (wrap64 (by unfold I64; omega))
      · exact .inr hp
    repeat' first
      | (refine And.intro (a := _ → _) ?_ ?_ <;> intro _)
      | (refine And.intro (a := _ ∧ _) ?_ ?_; · simp only [decide_eq_true_eq] at *; omega)
    all_goals
      first
        | exact leafB (decide_eq_false fun h => hc h.2.1)
        | (exfalso
           unfold Mi.CntP at hc
           simp only [decide_eq_true_eq, decide_eq_false_iff_not] at *
           omega)

theorem s65ok : (Ent.summ sIs).ok Try.prog 65 := sB_ok fun m _ => is65 m
theorem s91ok : (Ent.summ sIs).ok Try.prog 91 := sB_ok fun m _ => is91 m

end Go.Proofs.Ythckkoledhjmeaa.Ev
