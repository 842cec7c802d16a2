/-
  A packet's end is acked, in plain words; the program and the document do so.
-/
import Derived.Test.YthckkoledhjmeaaBF
namespace Go.Proofs.Ythckkoledhjmeaa.Ev
open Go

theorem max_le60 (t r : Int) : (if r > t then r else t) ≤ 60000000 ↔ t ≤ 60000000 ∧ r ≤ 60000000 := by
  split <;> omega

theorem mul60 {a b : Int} (h1 : 0 ≤ a) (h2 : a ≤ 60000000) (h3 : 0 ≤ b) (h4 : b ≤ 60000000) : 0 ≤ a * b ∧ a * b ≤ 3600000000000000 := by
  have := Int.mul_le_mul h2 h4 h3 (by decide)
  exact ⟨Int.mul_nonneg h1 h3, by omega⟩

set_option maxHeartbeats 4000000 in
theorem ack71 (m : Mi) (n sent at' : Int) : CallsA Try.prog 71 [.e (.agg m.cells), .d (.int .i64 n), .d (.int .i64 sent), .d (.int .i64 at')] [] fun r H' => r = accV (ackM m n sent at') (ackE m n sent at') ∧ H' = [] := by
  refine acc_sat e71ok 3 _ _ _ ?_
  show (t71 m n sent at').sat _ _
  rw [t71_eq]
  by_cases w : m.Is ∧ SizeP n ∧ TimeP sent ∧ TimeP at' ∧ sent ≤ at'
  · obtain ⟨hI, hn, h1, h2, h3⟩ := w
    obtain ⟨i1, i2, i3, i4, i5⟩ := id hI
    unfold Mi.TimP at i1
    unfold Mi.CntP at i2
    unfold Mi.BytP at i3
    unfold Mi.NumP at i4
    unfold Mi.SumP at i5
    have hn' := hn
    have h1' := h1
    have h2' := h2
    unfold SizeP at hn'
    unfold TimeP at h1' h2'
    have w1 : IntKind.i64.wrap (sent - m.frm) = sent - m.frm := wrap64 (by unfold I64; omega)
    have w2 : IntKind.i64.wrap (at' - sent) = at' - sent := wrap64 (by unfold I64; omega)
    have w3 : IntKind.i64.wrap (m.hits + 1) = m.hits + 1 := wrap64 (by unfold I64; omega)
    have w4 : IntKind.i64.wrap (m.acked + n) = m.acked + n := wrap64 (by unfold I64; omega)
    simp only [w1, w2, w3, w4, eq_self, if_true, max_le60]
    by_cases hs : m.n < 1024 ∧ 0 ≤ sent - m.frm ∧ sent - m.frm ≤ 60000000 ∧ at' - sent ≤ 60000000
    · have hM : ackM m n sent at' = ⟨m.id, m.frm, m.to, m.sent, m.acked + n, m.lost, m.packets, m.hits + 1, m.drops, m.n + 1, m.sumT + (sent - m.frm), m.sumR + (at' - sent), m.sumTT + (sent - m.frm) * (sent - m.frm), m.sumTR + (sent - m.frm) * (at' - sent), m.sumRR + (at' - sent) * (at' - sent)⟩ := by rw [ackM, if_pos hs]
      have hE : ackE m n sent at' = if ¬ m.Is then 1 else if ¬ SizeP n then 9 else if ¬ TimeP sent then 10 else if ¬ TimeP at' then 10 else if at' < sent then 10 else if ¬ (⟨m.id, m.frm, m.to, m.sent, m.acked + n, m.lost, m.packets, m.hits + 1, m.drops, m.n + 1, m.sumT + (sent - m.frm), m.sumR + (at' - sent), m.sumTT + (sent - m.frm) * (sent - m.frm), m.sumTR + (sent - m.frm) * (at' - sent), m.sumRR + (at' - sent) * (at' - sent)⟩ : Mi).Is then 6 else (0 : Int) := by rw [ackE, hM]
      have p1 := mul60 (a := sent - m.frm) (b := sent - m.frm) (by omega) (by omega) (by omega) (by omega)
      have p2 := mul60 (a := sent - m.frm) (b := at' - sent) (by omega) (by omega) (by omega) (by omega)
      have p3 := mul60 (a := at' - sent) (b := at' - sent) (by omega) (by omega) (by omega) (by omega)
      have w5 : IntKind.i64.wrap (m.n + 1) = m.n + 1 := wrap64 (by unfold I64; omega)
      have w6 : IntKind.i64.wrap (m.sumT + (sent - m.frm)) = m.sumT + (sent - m.frm) := wrap64 (by unfold I64; omega)
      have w7 : IntKind.i64.wrap (m.sumR + (at' - sent)) = m.sumR + (at' - sent) := wrap64 (by unfold I64; omega)
      have w8 : IntKind.i64.wrap ((sent - m.frm) * (sent - m.frm)) = (sent - m.frm) * (sent - m.frm) := wrap64 (by unfold I64; omega)
      have w9 : IntKind.i64.wrap ((sent - m.frm) * (at' - sent)) = (sent - m.frm) * (at' - sent) := wrap64 (by unfold I64; omega)
      have w10 : IntKind.i64.wrap ((at' - sent) * (at' - sent)) = (at' - sent) * (at' - sent) := wrap64 (by unfold I64; omega)
      have w11 : IntKind.i64.wrap (m.sumTT + (sent - m.frm) * (sent - m.frm)) = m.sumTT + (sent - m.frm) * (sent - m.frm) := wrap64 (by unfold I64; omega)
      have w12 : IntKind.i64.wrap (m.sumTR + (sent - m.frm) * (at' - sent)) = m.sumTR + (sent - m.frm) * (at' - sent) := wrap64 (by unfold I64; omega)
      have w13 : IntKind.i64.wrap (m.sumRR + (at' - sent) * (at' - sent)) = m.sumRR + (at' - sent) * (at' - sent) := wrap64 (by unfold I64; omega)
      simp only [w5, w6, w7, w8, w9, w10, w11, w12, w13, hM, hE]
      clear hM hE w1 w2 w3 w4 w5 w6 w7 w8 w9 w10 w11 w12 w13 p1 p2 p3 i1 i2 i3 i4 i5
      repeat' first
        | (refine And.intro (a := _ → _) ?_ ?_ <;> intro _)
        | refine And.intro trivial ?_
      all_goals
        simp only [decide_eq_true_eq, decide_eq_false_iff_not] at *
        first
          | (exfalso; contradiction)
          | (exfalso; omega)
          | (refine ⟨rfl, ?_⟩
             first
               | (rw [accV_err (k := 6) (by unfold SizeP TimeP; (repeat' split) <;> first | rfl | contradiction | (exfalso; omega)) (by decide)]; rfl)
               | (rw [accV_zero (by unfold SizeP TimeP; (repeat' split) <;> first | rfl | contradiction | (exfalso; omega))]; rfl))
    · have hM : ackM m n sent at' = ⟨m.id, m.frm, m.to, m.sent, m.acked + n, m.lost, m.packets, m.hits + 1, m.drops, m.n, m.sumT, m.sumR, m.sumTT, m.sumTR, m.sumRR⟩ := by rw [ackM, if_neg hs]
      have hE : ackE m n sent at' = if ¬ m.Is then 1 else if ¬ SizeP n then 9 else if ¬ TimeP sent then 10 else if ¬ TimeP at' then 10 else if at' < sent then 10 else if ¬ (⟨m.id, m.frm, m.to, m.sent, m.acked + n, m.lost, m.packets, m.hits + 1, m.drops, m.n, m.sumT, m.sumR, m.sumTT, m.sumTR, m.sumRR⟩ : Mi).Is then 6 else (0 : Int) := by rw [ackE, hM]
      simp only [hM, hE]
      clear hM hE w1 w2 w3 w4 i1 i2 i3 i4 i5
      repeat' first
        | (refine And.intro (a := _ → _) ?_ ?_ <;> intro _)
        | refine And.intro trivial ?_
      all_goals
        simp only [decide_eq_true_eq, decide_eq_false_iff_not] at *
        first
          | (exfalso; contradiction)
          | (exfalso; omega)
          | (refine ⟨rfl, ?_⟩
             first
               | (rw [accV_err (k := 6) (by unfold SizeP TimeP; (repeat' split) <;> first | rfl | contradiction | (exfalso; omega)) (by decide)]; rfl)
               | (rw [accV_zero (by unfold SizeP TimeP; (repeat' split) <;> first | rfl | contradiction | (exfalso; omega))]; rfl))
  · have hE : ackE m n sent at' = if ¬ m.Is then 1 else if ¬ SizeP n then 9 else if ¬ TimeP sent then 10 else if ¬ TimeP at' then 10 else if at' < sent then 10 else if ¬ (ackM m n sent at' : Mi).Is then 6 else (0 : Int) := rfl
    rw [hE]
    repeat' first
      | (refine And.intro (a := _ → _) ?_ ?_ <;> intro _)
      | refine And.intro trivial ?_
    all_goals
      simp only [decide_eq_true_eq, decide_eq_false_iff_not] at *
      first
        | (exfalso; exact w ⟨by assumption, by unfold SizeP; omega, by unfold TimeP; omega, by unfold TimeP; omega, by omega⟩)
        | (refine ⟨rfl, ?_⟩
           first
             | (rw [accV_err (k := 1) (by unfold SizeP TimeP; (repeat' split) <;> first | rfl | contradiction | (exfalso; omega)) (by decide)]; rfl)
             | (rw [accV_err (k := 9) (by unfold SizeP TimeP; (repeat' split) <;> first | rfl | contradiction | (exfalso; omega)) (by decide)]; rfl)
             | (rw [accV_err (k := 10) (by unfold SizeP TimeP; (repeat' split) <;> first | rfl | contradiction | (exfalso; omega)) (by decide)]; rfl))

set_option maxHeartbeats 4000000 in
theorem ack77 (m : Mi) (n sent at' : Int) : CallsA Try.prog 77 [.e (.agg m.cells), .d (.int .i64 n), .d (.int .i64 sent), .d (.int .i64 at')] [] fun r H' => r = accV (ackM m n sent at') (ackE m n sent at') ∧ H' = [] := by
  refine acc_sat e77ok 3 _ _ _ ?_
  show (t77 m n sent at').sat _ _
  rw [t77_eq]
  by_cases w : m.Is ∧ SizeP n ∧ TimeP sent ∧ TimeP at' ∧ sent ≤ at'
  · obtain ⟨hI, hn, h1, h2, h3⟩ := w
    obtain ⟨i1, i2, i3, i4, i5⟩ := id hI
    unfold Mi.TimP at i1
    unfold Mi.CntP at i2
    unfold Mi.BytP at i3
    unfold Mi.NumP at i4
    unfold Mi.SumP at i5
    have hn' := hn
    have h1' := h1
    have h2' := h2
    unfold SizeP at hn'
    unfold TimeP at h1' h2'
    have w1 : IntKind.i64.wrap (sent - m.frm) = sent - m.frm := wrap64 (by unfold I64; omega)
    have w2 : IntKind.i64.wrap (at' - sent) = at' - sent := wrap64 (by unfold I64; omega)
    have w3 : IntKind.i64.wrap (m.hits + 1) = m.hits + 1 := wrap64 (by unfold I64; omega)
    have w4 : IntKind.i64.wrap (m.acked + n) = m.acked + n := wrap64 (by unfold I64; omega)
    simp only [w1, w2, w3, w4, eq_self, if_true, max_le60]
    by_cases hs : m.n < 1024 ∧ 0 ≤ sent - m.frm ∧ sent - m.frm ≤ 60000000 ∧ at' - sent ≤ 60000000
    · have hM : ackM m n sent at' = ⟨m.id, m.frm, m.to, m.sent, m.acked + n, m.lost, m.packets, m.hits + 1, m.drops, m.n + 1, m.sumT + (sent - m.frm), m.sumR + (at' - sent), m.sumTT + (sent - m.frm) * (sent - m.frm), m.sumTR + (sent - m.frm) * (at' - sent), m.sumRR + (at' - sent) * (at' - sent)⟩ := by rw [ackM, if_pos hs]
      have hE : ackE m n sent at' = if ¬ m.Is then 1 else if ¬ SizeP n then 9 else if ¬ TimeP sent then 10 else if ¬ TimeP at' then 10 else if at' < sent then 10 else if ¬ (⟨m.id, m.frm, m.to, m.sent, m.acked + n, m.lost, m.packets, m.hits + 1, m.drops, m.n + 1, m.sumT + (sent - m.frm), m.sumR + (at' - sent), m.sumTT + (sent - m.frm) * (sent - m.frm), m.sumTR + (sent - m.frm) * (at' - sent), m.sumRR + (at' - sent) * (at' - sent)⟩ : Mi).Is then 6 else (0 : Int) := by rw [ackE, hM]
      have p1 := mul60 (a := sent - m.frm) (b := sent - m.frm) (by omega) (by omega) (by omega) (by omega)
      have p2 := mul60 (a := sent - m.frm) (b := at' - sent) (by omega) (by omega) (by omega) (by omega)
      have p3 := mul60 (a := at' - sent) (b := at' - sent) (by omega) (by omega) (by omega) (by omega)
      have w5 : IntKind.i64.wrap (m.n + 1) = m.n + 1 := wrap64 (by unfold I64; omega)
      have w6 : IntKind.i64.wrap (m.sumT + (sent - m.frm)) = m.sumT + (sent - m.frm) := wrap64 (by unfold I64; omega)
      have w7 : IntKind.i64.wrap (m.sumR + (at' - sent)) = m.sumR + (at' - sent) := wrap64 (by unfold I64; omega)
      have w8 : IntKind.i64.wrap ((sent - m.frm) * (sent - m.frm)) = (sent - m.frm) * (sent - m.frm) := wrap64 (by unfold I64; omega)
      have w9 : IntKind.i64.wrap ((sent - m.frm) * (at' - sent)) = (sent - m.frm) * (at' - sent) := wrap64 (by unfold I64; omega)
      have w10 : IntKind.i64.wrap ((at' - sent) * (at' - sent)) = (at' - sent) * (at' - sent) := wrap64 (by unfold I64; omega)
      have w11 : IntKind.i64.wrap (m.sumTT + (sent - m.frm) * (sent - m.frm)) = m.sumTT + (sent - m.frm) * (sent - m.frm) := wrap64 (by unfold I64; omega)
      have w12 : IntKind.i64.wrap (m.sumTR + (sent - m.frm) * (at' - sent)) = m.sumTR + (sent - m.frm) * (at' - sent) := wrap64 (by unfold I64; omega)
      have w13 : IntKind.i64.wrap (m.sumRR + (at' - sent) * (at' - sent)) = m.sumRR + (at' - sent) * (at' - sent) := wrap64 (by unfold I64; omega)
      simp only [w5, w6, w7, w8, w9, w10, w11, w12, w13, hM, hE]
      clear hM hE w1 w2 w3 w4 w5 w6 w7 w8 w9 w10 w11 w12 w13 p1 p2 p3 i1 i2 i3 i4 i5
      repeat' first
        | (refine And.intro (a := _ → _) ?_ ?_ <;> intro _)
        | refine And.intro trivial ?_
      all_goals
        simp only [decide_eq_true_eq, decide_eq_false_iff_not] at *
        first
          | (exfalso; contradiction)
          | (exfalso; omega)
          | (refine ⟨rfl, ?_⟩
             first
               | (rw [accV_err (k := 6) (by unfold SizeP TimeP; (repeat' split) <;> first | rfl | contradiction | (exfalso; omega)) (by decide)]; rfl)
               | (rw [accV_zero (by unfold SizeP TimeP; (repeat' split) <;> first | rfl | contradiction | (exfalso; omega))]; rfl))
    · have hM : ackM m n sent at' = ⟨m.id, m.frm, m.to, m.sent, m.acked + n, m.lost, m.packets, m.hits + 1, m.drops, m.n, m.sumT, m.sumR, m.sumTT, m.sumTR, m.sumRR⟩ := by rw [ackM, if_neg hs]
      have hE : ackE m n sent at' = if ¬ m.Is then 1 else if ¬ SizeP n then 9 else if ¬ TimeP sent then 10 else if ¬ TimeP at' then 10 else if at' < sent then 10 else if ¬ (⟨m.id, m.frm, m.to, m.sent, m.acked + n, m.lost, m.packets, m.hits + 1, m.drops, m.n, m.sumT, m.sumR, m.sumTT, m.sumTR, m.sumRR⟩ : Mi).Is then 6 else (0 : Int) := by rw [ackE, hM]
      simp only [hM, hE]
      clear hM hE w1 w2 w3 w4 i1 i2 i3 i4 i5
      repeat' first
        | (refine And.intro (a := _ → _) ?_ ?_ <;> intro _)
        | refine And.intro trivial ?_
      all_goals
        simp only [decide_eq_true_eq, decide_eq_false_iff_not] at *
        first
          | (exfalso; contradiction)
          | (exfalso; omega)
          | (refine ⟨rfl, ?_⟩
             first
               | (rw [accV_err (k := 6) (by unfold SizeP TimeP; (repeat' split) <;> first | rfl | contradiction | (exfalso; omega)) (by decide)]; rfl)
               | (rw [accV_zero (by unfold SizeP TimeP; (repeat' split) <;> first | rfl | contradiction | (exfalso; omega))]; rfl))
  · have hE : ackE m n sent at' = if ¬ m.Is then 1 else if ¬ SizeP n then 9 else if ¬ TimeP sent then 10 else if ¬ TimeP at' then 10 else if at' < sent then 10 else if ¬ (ackM m n sent at' : Mi).Is then 6 else (0 : Int) := rfl
    rw [hE]
    repeat' first
      | (refine And.intro (a := _ → _) ?_ ?_ <;> intro _)
      | refine And.intro trivial ?_
    all_goals
      simp only [decide_eq_true_eq, decide_eq_false_iff_not] at *
      first
        | (exfalso; exact w ⟨by assumption, by unfold SizeP; omega, by unfold TimeP; omega, by unfold TimeP; omega, by omega⟩)
        | (refine ⟨rfl, ?_⟩
           first
             | (rw [accV_err (k := 1) (by unfold SizeP TimeP; (repeat' split) <;> first | rfl | contradiction | (exfalso; omega)) (by decide)]; rfl)
             | (rw [accV_err (k := 9) (by unfold SizeP TimeP; (repeat' split) <;> first | rfl | contradiction | (exfalso; omega)) (by decide)]; rfl)
             | (rw [accV_err (k := 10) (by unfold SizeP TimeP; (repeat' split) <;> first | rfl | contradiction | (exfalso; omega)) (by decide)]; rfl))

end Go.Proofs.Ythckkoledhjmeaa.Ev
