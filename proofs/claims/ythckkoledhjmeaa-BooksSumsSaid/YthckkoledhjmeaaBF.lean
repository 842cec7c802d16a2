/-
  What is done with accounts, in plain words; the program and the document do so.
-/
import Derived.Test.YthckkoledhjmeaaBE
namespace Go.Proofs.Ythckkoledhjmeaa.Ev
open Go

def TimeP (t : Int) : Prop := 0 ≤ t ∧ t ≤ 1099511627776
def SizeP (n : Int) : Prop := 1 ≤ n ∧ n ≤ 9000
instance (t : Int) : Decidable (TimeP t) := by unfold TimeP; infer_instance
instance (n : Int) : Decidable (SizeP n) := by unfold SizeP; infer_instance

def openM (id at' : Int) : Mi := ⟨id, at', -1, 0, 0, 0, 0, 0, 0, 0, 0, 0, 0, 0, 0⟩
def openE (id at' : Int) : Int := if id < 0 then 1 else if ¬ TimeP at' then 1 else 0
def closeM (m : Mi) (at' : Int) : Mi := ⟨m.id, m.frm, at', m.sent, m.acked, m.lost, m.packets, m.hits, m.drops, m.n, m.sumT, m.sumR, m.sumTT, m.sumTR, m.sumRR⟩
def closeE (m : Mi) (at' : Int) : Int := if ¬ m.Is then 1 else if m.to ≠ -1 then 15 else if ¬ TimeP at' then 10 else if at' < m.frm then 10 else 0
def sndM (m : Mi) (n : Int) : Mi := ⟨m.id, m.frm, m.to, m.sent + n, m.acked, m.lost, m.packets + 1, m.hits, m.drops, m.n, m.sumT, m.sumR, m.sumTT, m.sumTR, m.sumRR⟩
def sndE (m : Mi) (n : Int) : Int := if ¬ m.Is then 1 else if ¬ SizeP n then 9 else if m.to ≠ -1 then 15 else if m.packets = 1048576 then 2 else 0
def loseM (m : Mi) (n : Int) : Mi := ⟨m.id, m.frm, m.to, m.sent, m.acked, m.lost + n, m.packets, m.hits, m.drops + 1, m.n, m.sumT, m.sumR, m.sumTT, m.sumTR, m.sumRR⟩
def loseE (m : Mi) (n : Int) : Int := if ¬ m.Is then 1 else if ¬ SizeP n then 9 else if ¬ (loseM m n).Is then 6 else 0
def ackM (m : Mi) (n sent at' : Int) : Mi :=
  if m.n < 1024 ∧ 0 ≤ sent - m.frm ∧ sent - m.frm ≤ 60000000 ∧ at' - sent ≤ 60000000 then
    ⟨m.id, m.frm, m.to, m.sent, m.acked + n, m.lost, m.packets, m.hits + 1, m.drops, m.n + 1, m.sumT + (sent - m.frm), m.sumR + (at' - sent), m.sumTT + (sent - m.frm) * (sent - m.frm), m.sumTR + (sent - m.frm) * (at' - sent), m.sumRR + (at' - sent) * (at' - sent)⟩
  else ⟨m.id, m.frm, m.to, m.sent, m.acked + n, m.lost, m.packets, m.hits + 1, m.drops, m.n, m.sumT, m.sumR, m.sumTT, m.sumTR, m.sumRR⟩
def ackE (m : Mi) (n sent at' : Int) : Int := if ¬ m.Is then 1 else if ¬ SizeP n then 9 else if ¬ TimeP sent then 10 else if ¬ TimeP at' then 10 else if at' < sent then 10 else if ¬ (ackM m n sent at').Is then 6 else 0
def Mi.DoneP (m : Mi) : Prop := m.Is ∧ m.to ≠ -1 ∧ m.hits + m.drops = m.packets
instance (m : Mi) : Decidable m.DoneP := by unfold Mi.DoneP; infer_instance

def accR (m : Mi) (e : Int) : AV := .tup [.agg m.cells, .s (.d (.int .i64 e))]
def accV (m : Mi) (e : Int) : AV := accR (if e = 0 then m else Mi.zero) e

structure AccL (m : Mi) (e : Int) (x : AV × Heap) : Prop where
  nil : x.2 = []
  eq : x.1.toD = accV m e

theorem acc_sat {f : Nat} {l : List (Nat × Ent)} (hl : EntsOk Try.prog l) (d : Nat) (args : List AV) (m : Mi) (e : Int) (h : (callT Try.prog (entL l) d f args [] fun r H' => .ret (r, H')).sat Try.prog (AccL m e)) :
    CallsA Try.prog f args [] fun r H' => r = accV m e ∧ H' = [] := by
  refine (calls_of fine hl d f args [] (Q := fun r H' => AccL m e (r, H')) h).out ?_
  rintro r H' ⟨hn, hr⟩
  simp only at hn
  subst hn
  exact ⟨r.toD, fun E => (AV.toD_conc (E := E) r).1, Nat.le_of_eq (AV.toD_conc (E := ⟨fun _ => 0, fun _ => 0, fun _ => 0, fun _ => false⟩) r).2.1, fun E h => (AV.toD_conc r).2.2 h, hr, rfl⟩

theorem accV_zero {m : Mi} {e : Int} (h : e = 0) : accV m e = accR m 0 := by rw [accV, h, if_pos rfl]
theorem accV_err {m : Mi} {e k : Int} (h : e = k) (hk : k ≠ 0) : accV m e = accR Mi.zero k := by rw [accV, h, if_neg hk]

theorem e38ok : EntsOk Try.prog e38 := ⟨k38, s65ok, k66, trivial⟩
theorem e57ok : EntsOk Try.prog e57 := ⟨k57, k82, trivial⟩
theorem e59ok : EntsOk Try.prog e59 := ⟨k59, s65ok, k82, trivial⟩
theorem e60ok : EntsOk Try.prog e60 := ⟨k60, s65ok, k83, trivial⟩
theorem e70ok : EntsOk Try.prog e70 := ⟨k70, s65ok, k83, k90, trivial⟩
theorem e71ok : EntsOk Try.prog e71 := ⟨k71, s65ok, k82, k83, k90, trivial⟩
theorem e80ok : EntsOk Try.prog e80 := ⟨k80, s91ok, trivial⟩
theorem e75ok : EntsOk Try.prog e75 := ⟨k75, k40, trivial⟩
theorem e73ok : EntsOk Try.prog e73 := ⟨k73, s91ok, k40, trivial⟩
theorem e76ok : EntsOk Try.prog e76 := ⟨k76, s91ok, k39, trivial⟩
theorem e79ok : EntsOk Try.prog e79 := ⟨k79, s91ok, k39, k92, trivial⟩
theorem e77ok : EntsOk Try.prog e77 := ⟨k77, s91ok, k39, k40, k92, trivial⟩

theorem open57 (id at' : Int) : CallsA Try.prog 57 [.d (.int .i64 id), .d (.int .i64 at')] [] fun r H' => r = accV (openM id at') (openE id at') ∧ H' = [] := by
  refine acc_sat e57ok 2 _ _ _ ?_
  show (t57 id at').sat _ _
  rw [t57_eq]
  repeat' first
    | (refine And.intro (a := _ → _) ?_ ?_ <;> intro _)
    | refine And.intro trivial ?_
  all_goals
    simp only [decide_eq_true_eq, decide_eq_false_iff_not] at *
    refine ⟨rfl, ?_⟩
    first
      | (rw [accV_zero (by unfold openE TimeP; (repeat' split) <;> first | rfl | contradiction | (exfalso; omega))]; rfl)
      | (rw [accV_err (k := 1) (by unfold openE TimeP; (repeat' split) <;> first | rfl | contradiction | (exfalso; omega)) (by decide)]; rfl)

theorem open75 (id at' : Int) : CallsA Try.prog 75 [.d (.int .i64 id), .d (.int .i64 at')] [] fun r H' => r = accV (openM id at') (openE id at') ∧ H' = [] := by
  refine acc_sat e75ok 2 _ _ _ ?_
  show (t75 id at').sat _ _
  rw [t75_eq]
  repeat' first
    | (refine And.intro (a := _ → _) ?_ ?_ <;> intro _)
    | refine And.intro trivial ?_
  all_goals
    simp only [decide_eq_true_eq, decide_eq_false_iff_not] at *
    refine ⟨rfl, ?_⟩
    first
      | (rw [accV_zero (by unfold openE TimeP; (repeat' split) <;> first | rfl | contradiction | (exfalso; omega))]; rfl)
      | (rw [accV_err (k := 1) (by unfold openE TimeP; (repeat' split) <;> first | rfl | contradiction | (exfalso; omega)) (by decide)]; rfl)

theorem close59 (m : Mi) (at' : Int) : CallsA Try.prog 59 [.e (.agg m.cells), .d (.int .i64 at')] [] fun r H' => r = accV (closeM m at') (closeE m at') ∧ H' = [] := by
  refine acc_sat e59ok 2 _ _ _ ?_
  show (t59 m at').sat _ _
  rw [t59_eq]
  repeat' first
    | (refine And.intro (a := _ → _) ?_ ?_ <;> intro _)
    | refine And.intro trivial ?_
  all_goals
    simp only [decide_eq_true_eq, decide_eq_false_iff_not, bne_iff_ne, bne_eq_false_iff_eq, ne_eq] at *
    refine ⟨rfl, ?_⟩
    first
      | (rw [accV_zero (by unfold closeE TimeP; (repeat' split) <;> first | rfl | contradiction | (exfalso; omega))]; rfl)
      | (rw [accV_err (k := 1) (by unfold closeE TimeP; (repeat' split) <;> first | rfl | contradiction | (exfalso; omega)) (by decide)]; rfl)
      | (rw [accV_err (k := 15) (by unfold closeE TimeP; (repeat' split) <;> first | rfl | contradiction | (exfalso; omega)) (by decide)]; rfl)
      | (rw [accV_err (k := 10) (by unfold closeE TimeP; (repeat' split) <;> first | rfl | contradiction | (exfalso; omega)) (by decide)]; rfl)

theorem close73 (m : Mi) (at' : Int) : CallsA Try.prog 73 [.e (.agg m.cells), .d (.int .i64 at')] [] fun r H' => r = accV (closeM m at') (closeE m at') ∧ H' = [] := by
  refine acc_sat e73ok 2 _ _ _ ?_
  show (t73 m at').sat _ _
  rw [t73_eq]
  repeat' first
    | (refine And.intro (a := _ → _) ?_ ?_ <;> intro _)
    | refine And.intro trivial ?_
  all_goals
    simp only [decide_eq_true_eq, decide_eq_false_iff_not, bne_iff_ne, bne_eq_false_iff_eq, ne_eq] at *
    refine ⟨rfl, ?_⟩
    first
      | (rw [accV_zero (by unfold closeE TimeP; (repeat' split) <;> first | rfl | contradiction | (exfalso; omega))]; rfl)
      | (rw [accV_err (k := 1) (by unfold closeE TimeP; (repeat' split) <;> first | rfl | contradiction | (exfalso; omega)) (by decide)]; rfl)
      | (rw [accV_err (k := 15) (by unfold closeE TimeP; (repeat' split) <;> first | rfl | contradiction | (exfalso; omega)) (by decide)]; rfl)
      | (rw [accV_err (k := 10) (by unfold closeE TimeP; (repeat' split) <;> first | rfl | contradiction | (exfalso; omega)) (by decide)]; rfl)

theorem send60 (m : Mi) (n : Int) : CallsA Try.prog 60 [.e (.agg m.cells), .d (.int .i64 n)] [] fun r H' => r = accV (sndM m n) (sndE m n) ∧ H' = [] := by
  refine acc_sat e60ok 2 _ _ _ ?_
  show (t60 m n).sat _ _
  rw [t60_eq]
  have w : ¬ (m.Is ∧ SizeP n) ∨ (IntKind.i64.wrap (m.packets + 1) = m.packets + 1 ∧ IntKind.i64.wrap (m.sent + n) = m.sent + n) := by
    by_cases h : m.Is ∧ SizeP n
    · obtain ⟨⟨_, h2, h3, _, _⟩, h6⟩ := h
      unfold Mi.CntP at h2
      unfold Mi.BytP at h3
      unfold SizeP at h6
      exact .inr ⟨wrap64 (by unfold I64; omega), wrap64 (by unfold I64; omega)⟩
    · exact .inl h
  rcases w with w | ⟨w1, w2⟩
  · repeat' first
      | (refine And.intro (a := _ → _) ?_ ?_ <;> intro _)
      | refine And.intro trivial ?_
    all_goals
      simp only [decide_eq_true_eq, decide_eq_false_iff_not, bne_iff_ne, bne_eq_false_iff_eq, ne_eq, beq_iff_eq, beq_eq_false_iff_ne] at *
      first
        | (exfalso; exact w ⟨by assumption, by unfold SizeP; omega⟩)
        | (refine ⟨rfl, ?_⟩
           first
             | (rw [accV_err (k := 1) (by unfold sndE SizeP; (repeat' split) <;> first | rfl | contradiction | (exfalso; omega)) (by decide)]; rfl)
             | (rw [accV_err (k := 9) (by unfold sndE SizeP; (repeat' split) <;> first | rfl | contradiction | (exfalso; omega)) (by decide)]; rfl)
             | (rw [accV_err (k := 15) (by unfold sndE SizeP; (repeat' split) <;> first | rfl | contradiction | (exfalso; omega)) (by decide)]; rfl)
             | (rw [accV_err (k := 2) (by unfold sndE SizeP; (repeat' split) <;> first | rfl | contradiction | (exfalso; omega)) (by decide)]; rfl)
             | (rw [accV_zero (by unfold sndE SizeP; (repeat' split) <;> first | rfl | contradiction | (exfalso; omega))]; rfl))
  · rw [w1, w2]
    repeat' first
      | (refine And.intro (a := _ → _) ?_ ?_ <;> intro _)
      | refine And.intro trivial ?_
    all_goals
      simp only [decide_eq_true_eq, decide_eq_false_iff_not, bne_iff_ne, bne_eq_false_iff_eq, ne_eq, beq_iff_eq, beq_eq_false_iff_ne] at *
      refine ⟨rfl, ?_⟩
      first
        | (rw [accV_err (k := 1) (by unfold sndE SizeP; (repeat' split) <;> first | rfl | contradiction | (exfalso; omega)) (by decide)]; rfl)
        | (rw [accV_err (k := 9) (by unfold sndE SizeP; (repeat' split) <;> first | rfl | contradiction | (exfalso; omega)) (by decide)]; rfl)
        | (rw [accV_err (k := 15) (by unfold sndE SizeP; (repeat' split) <;> first | rfl | contradiction | (exfalso; omega)) (by decide)]; rfl)
        | (rw [accV_err (k := 2) (by unfold sndE SizeP; (repeat' split) <;> first | rfl | contradiction | (exfalso; omega)) (by decide)]; rfl)
        | (rw [accV_zero (by unfold sndE SizeP; (repeat' split) <;> first | rfl | contradiction | (exfalso; omega))]; rfl)

theorem send76 (m : Mi) (n : Int) : CallsA Try.prog 76 [.e (.agg m.cells), .d (.int .i64 n)] [] fun r H' => r = accV (sndM m n) (sndE m n) ∧ H' = [] := by
  refine acc_sat e76ok 2 _ _ _ ?_
  show (t76 m n).sat _ _
  rw [t76_eq]
  have w : ¬ (m.Is ∧ SizeP n) ∨ (IntKind.i64.wrap (m.packets + 1) = m.packets + 1 ∧ IntKind.i64.wrap (m.sent + n) = m.sent + n) := by
    by_cases h : m.Is ∧ SizeP n
    · obtain ⟨⟨_, h2, h3, _, _⟩, h6⟩ := h
      unfold Mi.CntP at h2
      unfold Mi.BytP at h3
      unfold SizeP at h6
      exact .inr ⟨wrap64 (by unfold I64; omega), wrap64 (by unfold I64; omega)⟩
    · exact .inl h
  rcases w with w | ⟨w1, w2⟩
  · repeat' first
      | (refine And.intro (a := _ → _) ?_ ?_ <;> intro _)
      | refine And.intro trivial ?_
    all_goals
      simp only [decide_eq_true_eq, decide_eq_false_iff_not, bne_iff_ne, bne_eq_false_iff_eq, ne_eq, beq_iff_eq, beq_eq_false_iff_ne] at *
      first
        | (exfalso; exact w ⟨by assumption, by unfold SizeP; omega⟩)
        | (refine ⟨rfl, ?_⟩
           first
             | (rw [accV_err (k := 1) (by unfold sndE SizeP; (repeat' split) <;> first | rfl | contradiction | (exfalso; omega)) (by decide)]; rfl)
             | (rw [accV_err (k := 9) (by unfold sndE SizeP; (repeat' split) <;> first | rfl | contradiction | (exfalso; omega)) (by decide)]; rfl)
             | (rw [accV_err (k := 15) (by unfold sndE SizeP; (repeat' split) <;> first | rfl | contradiction | (exfalso; omega)) (by decide)]; rfl)
             | (rw [accV_err (k := 2) (by unfold sndE SizeP; (repeat' split) <;> first | rfl | contradiction | (exfalso; omega)) (by decide)]; rfl)
             | (rw [accV_zero (by unfold sndE SizeP; (repeat' split) <;> first | rfl | contradiction | (exfalso; omega))]; rfl))
  · rw [w1, w2]
    repeat' first
      | (refine And.intro (a := _ → _) ?_ ?_ <;> intro _)
      | refine And.intro trivial ?_
    all_goals
      simp only [decide_eq_true_eq, decide_eq_false_iff_not, bne_iff_ne, bne_eq_false_iff_eq, ne_eq, beq_iff_eq, beq_eq_false_iff_ne] at *
      refine ⟨rfl, ?_⟩
      first
        | (rw [accV_err (k := 1) (by unfold sndE SizeP; (repeat' split) <;> first | rfl | contradiction | (exfalso; omega)) (by decide)]; rfl)
        | (rw [accV_err (k := 9) (by unfold sndE SizeP; (repeat' split) <;> first | rfl | contradiction | (exfalso; omega)) (by decide)]; rfl)
        | (rw [accV_err (k := 15) (by unfold sndE SizeP; (repeat' split) <;> first | rfl | contradiction | (exfalso; omega)) (by decide)]; rfl)
        | (rw [accV_err (k := 2) (by unfold sndE SizeP; (repeat' split) <;> first | rfl | contradiction | (exfalso; omega)) (by decide)]; rfl)
        | (rw [accV_zero (by unfold sndE SizeP; (repeat' split) <;> first | rfl | contradiction | (exfalso; omega))]; rfl)

theorem lose70 (m : Mi) (n : Int) : CallsA Try.prog 70 [.e (.agg m.cells), .d (.int .i64 n)] [] fun r H' => r = accV (loseM m n) (loseE m n) ∧ H' = [] := by
  refine acc_sat e70ok 3 _ _ _ ?_
  show (t70 m n).sat _ _
  rw [t70_eq]
  have w : ¬ (m.Is ∧ SizeP n) ∨ (IntKind.i64.wrap (m.drops + 1) = m.drops + 1 ∧ IntKind.i64.wrap (m.lost + n) = m.lost + n) := by
    by_cases h : m.Is ∧ SizeP n
    · obtain ⟨⟨_, h2, h3, _, _⟩, h6⟩ := h
      unfold Mi.CntP at h2
      unfold Mi.BytP at h3
      unfold SizeP at h6
      exact .inr ⟨wrap64 (by unfold I64; omega), wrap64 (by unfold I64; omega)⟩
    · exact .inl h
  rcases w with w | ⟨w1, w2⟩
  · repeat' first
      | (refine And.intro (a := _ → _) ?_ ?_ <;> intro _)
      | refine And.intro trivial ?_
    all_goals
      simp only [decide_eq_true_eq, decide_eq_false_iff_not, bne_iff_ne, bne_eq_false_iff_eq, ne_eq, beq_iff_eq, beq_eq_false_iff_ne] at *
      first
        | (exfalso; exact w ⟨by assumption, by unfold SizeP; omega⟩)
        | (refine ⟨rfl, ?_⟩
           first
             | (rw [accV_err (k := 1) (by unfold loseE SizeP; (repeat' split) <;> first | rfl | contradiction | (exfalso; omega)) (by decide)]; rfl)
             | (rw [accV_err (k := 9) (by unfold loseE SizeP; (repeat' split) <;> first | rfl | contradiction | (exfalso; omega)) (by decide)]; rfl)
             | (rw [accV_err (k := 6) (by unfold loseE SizeP; (repeat' split) <;> first | rfl | contradiction | (exfalso; omega)) (by decide)]; rfl)
             | (rw [accV_zero (by unfold loseE SizeP; (repeat' split) <;> first | rfl | contradiction | (exfalso; omega))]; rfl))
  · rw [w1, w2]
    repeat' first
      | (refine And.intro (a := _ → _) ?_ ?_ <;> intro _)
      | refine And.intro trivial ?_
    all_goals
      simp only [decide_eq_true_eq, decide_eq_false_iff_not, bne_iff_ne, bne_eq_false_iff_eq, ne_eq, beq_iff_eq, beq_eq_false_iff_ne] at *
      refine ⟨rfl, ?_⟩
      first
        | (rw [accV_err (k := 1) (by unfold loseE SizeP; (repeat' split) <;> first | rfl | contradiction | (exfalso; omega)) (by decide)]; rfl)
        | (rw [accV_err (k := 9) (by unfold loseE SizeP; (repeat' split) <;> first | rfl | contradiction | (exfalso; omega)) (by decide)]; rfl)
        | (rw [accV_err (k := 6) (by unfold loseE SizeP; (repeat' split) <;> first | rfl | contradiction | (exfalso; omega)) (by decide)]; rfl)
        | (rw [accV_zero (by unfold loseE SizeP; (repeat' split) <;> first | rfl | contradiction | (exfalso; omega))]; rfl)

theorem lose79 (m : Mi) (n : Int) : CallsA Try.prog 79 [.e (.agg m.cells), .d (.int .i64 n)] [] fun r H' => r = accV (loseM m n) (loseE m n) ∧ H' = [] := by
  refine acc_sat e79ok 3 _ _ _ ?_
  show (t79 m n).sat _ _
  rw [t79_eq]
  have w : ¬ (m.Is ∧ SizeP n) ∨ (IntKind.i64.wrap (m.drops + 1) = m.drops + 1 ∧ IntKind.i64.wrap (m.lost + n) = m.lost + n) := by
    by_cases h : m.Is ∧ SizeP n
    · obtain ⟨⟨_, h2, h3, _, _⟩, h6⟩ := h
      unfold Mi.CntP at h2
      unfold Mi.BytP at h3
      unfold SizeP at h6
      exact .inr ⟨wrap64 (by unfold I64; omega), wrap64 (by unfold I64; omega)⟩
    · exact .inl h
  rcases w with w | ⟨w1, w2⟩
  · repeat' first
      | (refine And.intro (a := _ → _) ?_ ?_ <;> intro _)
      | refine And.intro trivial ?_
    all_goals
      simp only [decide_eq_true_eq, decide_eq_false_iff_not, bne_iff_ne, bne_eq_false_iff_eq, ne_eq, beq_iff_eq, beq_eq_false_iff_ne] at *
      first
        | (exfalso; exact w ⟨by assumption, by unfold SizeP; omega⟩)
        | (refine ⟨rfl, ?_⟩
           first
             | (rw [accV_err (k := 1) (by unfold loseE SizeP; (repeat' split) <;> first | rfl | contradiction | (exfalso; omega)) (by decide)]; rfl)
             | (rw [accV_err (k := 9) (by unfold loseE SizeP; (repeat' split) <;> first | rfl | contradiction | (exfalso; omega)) (by decide)]; rfl)
             | (rw [accV_err (k := 6) (by unfold loseE SizeP; (repeat' split) <;> first | rfl | contradiction | (exfalso; omega)) (by decide)]; rfl)
             | (rw [accV_zero (by unfold loseE SizeP; (repeat' split) <;> first | rfl | contradiction | (exfalso; omega))]; rfl))
  · rw [w1, w2]
    repeat' first
      | (refine And.intro (a := _ → _) ?_ ?_ <;> intro _)
      | refine And.intro trivial ?_
    all_goals
      simp only [decide_eq_true_eq, decide_eq_false_iff_not, bne_iff_ne, bne_eq_false_iff_eq, ne_eq, beq_iff_eq, beq_eq_false_iff_ne] at *
      refine ⟨rfl, ?_⟩
      first
        | (rw [accV_err (k := 1) (by unfold loseE SizeP; (repeat' split) <;> first | rfl | contradiction | (exfalso; omega)) (by decide)]; rfl)
        | (rw [accV_err (k := 9) (by unfold loseE SizeP; (repeat' split) <;> first | rfl | contradiction | (exfalso; omega)) (by decide)]; rfl)
        | (rw [accV_err (k := 6) (by unfold loseE SizeP; (repeat' split) <;> first | rfl | contradiction | (exfalso; omega)) (by decide)]; rfl)
        | (rw [accV_zero (by unfold loseE SizeP; (repeat' split) <;> first | rfl | contradiction | (exfalso; omega))]; rfl)

theorem done38 (m : Mi) : CallsA Try.prog 38 [.e (.agg m.cells)] [] fun r H' => r = .d (.bool (decide m.DoneP)) ∧ H' = [] := by
  refine mi_bool e38ok 2 m _ ?_
  show (t38 m).sat _ _
  rw [t38_eq]
  have w : ¬ m.Is ∨ IntKind.i64.wrap (m.hits + m.drops) = m.hits + m.drops := by
    by_cases h : m.Is
    · have h2 := h.2.1
      unfold Mi.CntP at h2
      exact .inr (wrap64 (by unfold I64; omega))
    · exact .inl h
  rcases w with w | w
  · refine ⟨trivial, fun h => ?_, fun _ => leafB (decide_eq_false fun h => w h.1)⟩
    exact absurd (of_decide_eq_true h) w
  · rw [w]
    repeat' first
      | (refine And.intro (a := _ → _) ?_ ?_ <;> intro _)
      | refine And.intro trivial ?_
    all_goals
      simp only [decide_eq_true_eq, decide_eq_false_iff_not, bne_iff_ne, bne_eq_false_iff_eq, ne_eq, beq_iff_eq, beq_eq_false_iff_ne] at *
      refine leafB ?_
      first
        | exact decide_eq_true ⟨by assumption, by assumption, by assumption⟩
        | exact decide_eq_false fun ⟨h1, h2, h3⟩ => by
            first
              | contradiction
              | omega

theorem done80 (m : Mi) : CallsA Try.prog 80 [.e (.agg m.cells)] [] fun r H' => r = .d (.bool (decide m.DoneP)) ∧ H' = [] := by
  refine mi_bool e80ok 2 m _ ?_
  show (t80 m).sat _ _
  rw [t80_eq]
  have w : ¬ m.Is ∨ IntKind.i64.wrap (m.hits + m.drops) = m.hits + m.drops := by
    by_cases h : m.Is
    · have h2 := h.2.1
      unfold Mi.CntP at h2
      exact .inr (wrap64 (by unfold I64; omega))
    · exact .inl h
  rcases w with w | w
  · refine ⟨trivial, fun h => ?_, fun _ => leafB (decide_eq_false fun h => w h.1)⟩
    exact absurd (of_decide_eq_true h) w
  · rw [w]
    repeat' first
      | (refine And.intro (a := _ → _) ?_ ?_ <;> intro _)
      | refine And.intro trivial ?_
    all_goals
      simp only [decide_eq_true_eq, decide_eq_false_iff_not, bne_iff_ne, bne_eq_false_iff_eq, ne_eq, beq_iff_eq, beq_eq_false_iff_ne] at *
      refine leafB ?_
      first
        | exact decide_eq_true ⟨by assumption, by assumption, by assumption⟩
        | exact decide_eq_false fun ⟨h1, h2, h3⟩ => by
            first
              | contradiction
              | omega

end Go.Proofs.Ythckkoledhjmeaa.Ev
