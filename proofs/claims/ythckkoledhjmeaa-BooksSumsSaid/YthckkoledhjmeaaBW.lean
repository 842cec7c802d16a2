/-
  Books: what the document's Ack and Lose do.
-/
import Derived.Test.YthckkoledhjmeaaBV
namespace Go.Proofs.Ythckkoledhjmeaa.Ev
open Go

set_option maxRecDepth 100000 in
theorem lose53 (B : BSt) (h : B.Ok) (seq at' : Int) :
    CallsA Try.prog 53 [.e (.s (.ptr 0 0)), .d (.int .u64 seq), .d (.int .i64 at')] (rhb B) fun r H' => r = enR B seq at' ∧ H' = rhb4 (loB B seq at') := by
  refine CallsA.re (calls_of fine e53ok 4 53 _ _ ?_)
  have hlen := h.acc.len
  have htm := h.acc.tm
  show (t53 B.L B.L.es.length (pkG B.L.es) B.ms.length (fun j => B.ms.getD j Mi.zero) B.now B.id B.tmo seq at').sat _ _
  rw [t53_eq]
  by_cases he : earlyB B at'
  · have e10 : Re 4 [.tup [.agg [.c (.int .u64 0), .c (.int .i64 0), .c (.int .i64 0), .c (.int .i64 0)], .s (.c (.int .i64 10))]] (rH B.L B.L.es.length (pkG B.L.es) B.ms.length (miF fun j => B.ms.getD j Mi.zero) B.now B.id B.tmo) fun fr H2 => ∃ r2, fr = [r2] ∧ r2 = enR B seq at' ∧ H2 = rhb4 (loB B seq at') := by
      have he0 : enE B seq at' = 10 := by rw [enE, if_pos he]
      refine .toD (Re.ren [some 0, some 1, none, none, some 2, some 3] rfl rfl rfl (.refl ⟨_, rfl, ?_, ?_⟩))
      · simp [enR, enP, he0, AV.toD, EV.toD, SV.toD, Pkt.zero, Pkt.cells]
      · have : loB B seq at' = B := by rw [loB, he0, if_neg (by decide)]
        rw [this]; rfl
    unfold earlyB at he
    refine ⟨fun _ => ⟨fun c2 => ⟨fun _ => e10, fun c3 => ?_⟩, fun _ => e10⟩, fun _ => e10⟩
    simp only [decide_eq_false_iff_not, decide_eq_true_eq] at c2 c3
    omega
  · have hne := not_early he
    have hE : enE B seq at' = takeE B.L seq := by rw [enE, if_neg he]
    have heta : (⟨B.L.room, B.L.first, B.L.next, B.L.last, B.L.es⟩ : LSt) = B.L := rfl
    refine ⟨fun _ => ⟨fun _ => ⟨fun c => ?_, fun _ => ?_⟩, fun c => ?_⟩, fun c => ?_⟩
    · simp only [decide_eq_true_eq] at c; omega
    · rw [rowPk_pkG, heta]
      refine ⟨⟨⟨rfl, pkRow_G _ _⟩, h.led⟩, fun c => ?_, fun c => ?_⟩
      · have h0 : takeE B.L seq ≠ 0 := by simpa using c
        have hL : takeL B.L seq = B.L := by rw [takeL, if_neg h0]
        rw [hL]
        refine Re.ren [some 0, some 1, none, none, some 5, some 3] rfl rfl rfl (.toD (.refl ⟨_, rfl, ?_, ?_⟩))
        · simp [enR, enP, hE, h0, AV.toD, EV.toD, SV.toD, Pkt.zero, Pkt.cells]
        · have : loB B seq at' = B := by rw [loB, hE, if_neg h0]
          rw [this]; rfl
      · have h0 : takeE B.L seq = 0 := by simpa using c
        have hE0 : enE B seq at' = 0 := by rw [hE, h0]
        obtain ⟨_, _, hh⟩ := enE_zero hE0
        have hP : takeP B.L seq = findP B.L.es seq := by rw [takeP, if_pos h0]
        have hmem := (take_split seq 0 hh).2.2
        have hA := ((h.acc.later hne.1 hne.2).split hh).lose.1
        rw [rowPk_pkG (takeL B.L seq).es]
        rw [rowPk_pkG (takeL B.L seq).es, rowMi_miF, rowMi_miG, hP]
        have hpp : findP B.L.es seq = findP B.L.es seq := rfl
        generalize hp : findP B.L.es seq = p at hA hpp hmem ⊢
        have leaf : ∀ X1 X2 X3 X4 X5 X6 : AB, Re 4 [.tup [.agg p.cells, .s (.c (.int .i64 0))]]
            [.cells 72 [.ptr 1 0, .sl 11 15 0 (putM B.ms (loseM (ofM B.ms p.mi) p.size)).length 0, .d (.int .i64 B.id), .d (.int .i64 B.tmo), .d (.int .i64 at')], .cells 44 (rc (takeL B.L seq) 10 (takeL B.L seq).es.length), .dead, .dead, X1, X2, X3, X4, X5, X6, .row 36 4 (takeL B.L seq).es.length (pkG (takeL B.L seq).es), .row 80 15 (putM B.ms (loseM (ofM B.ms p.mi) p.size)).length (miG (putM B.ms (loseM (ofM B.ms p.mi) p.size)))]
            fun fr H2 => ∃ r2, fr = [r2] ∧ r2 = enR B seq at' ∧ H2 = rhb4 (loB B seq at') := by
          intro X1 X2 X3 X4 X5 X6
          refine Re.ren [some 0, some 1, none, none, some 10, some 11] rfl rfl rfl (.toD (.refl ⟨_, rfl, ?_, ?_⟩))
          · simp [enR, enP, hE0, AV.toD, EV.toD, SV.toD, hp, Pkt.cells]
          · have : loB B seq at' = ⟨takeL B.L seq, at', putM B.ms (loseM (ofM B.ms p.mi) p.size), B.id, B.tmo⟩ := by rw [loB, if_pos hE0, hp]
            rw [this]
            simp [rhb4, putM_len, AB.toD, SV.toD, rc]
        have N1 : ((B.ms.length = B.ms.length ∧ MiRow B.ms.length (miF fun j => B.ms.getD j Mi.zero)) ∧ (takeL B.L seq).es.length = (takeL B.L seq).es.length ∧ PkRow (takeL B.L seq).es.length (pkG (takeL B.L seq).es)) ∧ B.ms.length ≤ 64 := ⟨⟨⟨rfl, miRow_F _ _⟩, rfl, pkRow_G _ _⟩, hlen⟩
        have N2 : ((B.ms.length = B.ms.length ∧ MiRow B.ms.length (miG B.ms)) ∧ (takeL B.L seq).es.length = (takeL B.L seq).es.length ∧ PkRow (takeL B.L seq).es.length (pkG (takeL B.L seq).es)) ∧ B.ms.length ≤ 64 := ⟨⟨⟨rfl, miRow_G _ _⟩, rfl, pkRow_G _ _⟩, hlen⟩
        have A0 : (loseE (ofM B.ms p.mi) p.size == 0) = true := by rw [hA]; rfl
        exact ⟨⟨N1, rfl, ⟨A0, N2, leaf _ _ _ _ _ _⟩, ⟨rfl, A0, N2, leaf _ _ _ _ _ _⟩⟩, ⟨rfl, rfl, N1, rfl, A0, N2, leaf _ _ _ _ _ _⟩⟩
    · simp only [decide_eq_false_iff_not] at c; omega
    · simp only [decide_eq_false_iff_not] at c; omega

set_option maxRecDepth 100000 in
theorem ack52 (B : BSt) (h : B.Ok) (seq at' : Int) :
    CallsA Try.prog 52 [.e (.s (.ptr 0 0)), .d (.int .u64 seq), .d (.int .i64 at')] (rhb B) fun r H' => r = enR B seq at' ∧ H' = rhb4 (akB B seq at') := by
  refine CallsA.re (calls_of fine e52ok 4 52 _ _ ?_)
  have hlen := h.acc.len
  have htm := h.acc.tm
  show (t52 B.L B.L.es.length (pkG B.L.es) B.ms.length (fun j => B.ms.getD j Mi.zero) B.now B.id B.tmo seq at').sat _ _
  rw [t52_eq]
  by_cases he : earlyB B at'
  · have e10 : Re 4 [.tup [.agg [.c (.int .u64 0), .c (.int .i64 0), .c (.int .i64 0), .c (.int .i64 0)], .s (.c (.int .i64 10))]] (rH B.L B.L.es.length (pkG B.L.es) B.ms.length (miF fun j => B.ms.getD j Mi.zero) B.now B.id B.tmo) fun fr H2 => ∃ r2, fr = [r2] ∧ r2 = enR B seq at' ∧ H2 = rhb4 (akB B seq at') := by
      have he0 : enE B seq at' = 10 := by rw [enE, if_pos he]
      refine .toD (Re.ren [some 0, some 1, none, none, some 2, some 3] rfl rfl rfl (.refl ⟨_, rfl, ?_, ?_⟩))
      · simp [enR, enP, he0, AV.toD, EV.toD, SV.toD, Pkt.zero, Pkt.cells]
      · have : akB B seq at' = B := by rw [akB, he0, if_neg (by decide)]
        rw [this]; rfl
    unfold earlyB at he
    refine ⟨fun _ => ⟨fun c2 => ⟨fun _ => e10, fun c3 => ?_⟩, fun _ => e10⟩, fun _ => e10⟩
    simp only [decide_eq_false_iff_not, decide_eq_true_eq] at c2 c3
    omega
  · have hne := not_early he
    have hE : enE B seq at' = takeE B.L seq := by rw [enE, if_neg he]
    have heta : (⟨B.L.room, B.L.first, B.L.next, B.L.last, B.L.es⟩ : LSt) = B.L := rfl
    refine ⟨fun _ => ⟨fun _ => ⟨fun c => ?_, fun _ => ?_⟩, fun c => ?_⟩, fun c => ?_⟩
    · simp only [decide_eq_true_eq] at c; omega
    · rw [rowPk_pkG, heta]
      refine ⟨⟨⟨rfl, pkRow_G _ _⟩, h.led⟩, fun c => ?_, fun c => ?_⟩
      · have h0 : takeE B.L seq ≠ 0 := by simpa using c
        have hL : takeL B.L seq = B.L := by rw [takeL, if_neg h0]
        rw [hL]
        refine Re.ren [some 0, some 1, none, none, some 5, some 3] rfl rfl rfl (.toD (.refl ⟨_, rfl, ?_, ?_⟩))
        · simp [enR, enP, hE, h0, AV.toD, EV.toD, SV.toD, Pkt.zero, Pkt.cells]
        · have : akB B seq at' = B := by rw [akB, hE, if_neg h0]
          rw [this]; rfl
      · have h0 : takeE B.L seq = 0 := by simpa using c
        have hE0 : enE B seq at' = 0 := by rw [hE, h0]
        obtain ⟨_, _, hh⟩ := enE_zero hE0
        have hP : takeP B.L seq = findP B.L.es seq := by rw [takeP, if_pos h0]
        have hmem := (take_split seq 0 hh).2.2
        have hA := ((h.acc.later hne.1 hne.2).split hh).ack.1
        rw [rowPk_pkG (takeL B.L seq).es]
        rw [rowPk_pkG (takeL B.L seq).es, rowMi_miF, rowMi_miG, hP]
        have hpp : findP B.L.es seq = findP B.L.es seq := rfl
        generalize hp : findP B.L.es seq = p at hA hpp hmem ⊢
        have leaf : ∀ X1 X2 X3 X4 X5 X6 : AB, Re 4 [.tup [.agg p.cells, .s (.c (.int .i64 0))]]
            [.cells 72 [.ptr 1 0, .sl 11 15 0 (putM B.ms (ackM (ofM B.ms p.mi) p.size p.sent at')).length 0, .d (.int .i64 B.id), .d (.int .i64 B.tmo), .d (.int .i64 at')], .cells 44 (rc (takeL B.L seq) 10 (takeL B.L seq).es.length), .dead, .dead, X1, X2, X3, X4, X5, X6, .row 36 4 (takeL B.L seq).es.length (pkG (takeL B.L seq).es), .row 80 15 (putM B.ms (ackM (ofM B.ms p.mi) p.size p.sent at')).length (miG (putM B.ms (ackM (ofM B.ms p.mi) p.size p.sent at')))]
            fun fr H2 => ∃ r2, fr = [r2] ∧ r2 = enR B seq at' ∧ H2 = rhb4 (akB B seq at') := by
          intro X1 X2 X3 X4 X5 X6
          refine Re.ren [some 0, some 1, none, none, some 10, some 11] rfl rfl rfl (.toD (.refl ⟨_, rfl, ?_, ?_⟩))
          · simp [enR, enP, hE0, AV.toD, EV.toD, SV.toD, hp, Pkt.cells]
          · have : akB B seq at' = ⟨takeL B.L seq, at', putM B.ms (ackM (ofM B.ms p.mi) p.size p.sent at'), B.id, B.tmo⟩ := by rw [akB, if_pos hE0, hp]
            rw [this]
            simp [rhb4, putM_len, AB.toD, SV.toD, rc]
        have N1 : ((B.ms.length = B.ms.length ∧ MiRow B.ms.length (miF fun j => B.ms.getD j Mi.zero)) ∧ (takeL B.L seq).es.length = (takeL B.L seq).es.length ∧ PkRow (takeL B.L seq).es.length (pkG (takeL B.L seq).es)) ∧ B.ms.length ≤ 64 := ⟨⟨⟨rfl, miRow_F _ _⟩, rfl, pkRow_G _ _⟩, hlen⟩
        have N2 : ((B.ms.length = B.ms.length ∧ MiRow B.ms.length (miG B.ms)) ∧ (takeL B.L seq).es.length = (takeL B.L seq).es.length ∧ PkRow (takeL B.L seq).es.length (pkG (takeL B.L seq).es)) ∧ B.ms.length ≤ 64 := ⟨⟨⟨rfl, miRow_G _ _⟩, rfl, pkRow_G _ _⟩, hlen⟩
        have A0 : (ackE (ofM B.ms p.mi) p.size p.sent at' == 0) = true := by rw [hA]; rfl
        exact ⟨⟨N1, rfl, rfl, ⟨A0, N2, leaf _ _ _ _ _ _⟩, ⟨rfl, rfl, A0, N2, leaf _ _ _ _ _ _⟩⟩, ⟨rfl, rfl, rfl, N1, rfl, rfl, A0, N2, leaf _ _ _ _ _ _⟩⟩
    · simp only [decide_eq_false_iff_not] at c; omega
    · simp only [decide_eq_false_iff_not] at c; omega

end Go.Proofs.Ythckkoledhjmeaa.Ev
