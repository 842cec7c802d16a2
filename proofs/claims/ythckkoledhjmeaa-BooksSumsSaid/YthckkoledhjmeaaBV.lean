/-
  Books: what the document's functions do (Begin, Send, Ack, Lose).
-/
import Derived.Test.YthckkoledhjmeaaBU
namespace Go.Proofs.Ythckkoledhjmeaa.Ev
open Go

theorem e50ok : EntsOk Try.prog e50 := ⟨k50, k72, k40, sure_ok s73ok, s74ok, sure_ok s75ok, trivial⟩
theorem e51ok : EntsOk Try.prog e51 := ⟨k51, k72, k40, s76ok, s13ok, s74ok, trivial⟩
theorem e52ok : EntsOk Try.prog e52 := ⟨k52, k72, k40, s15ok, s78ok, sure_ok s77ok, s74ok, trivial⟩
theorem e53ok : EntsOk Try.prog e53 := ⟨k53, k72, k40, s15ok, s78ok, sure_ok s79ok, s74ok, trivial⟩
theorem e55ok : EntsOk Try.prog e55 := ⟨k55, s80ok, trivial⟩

theorem rowMi_miF (ms : List Mi) : rowMi ms.length (miF fun j => ms.getD j Mi.zero) = ms := rowMi_miG ms

set_option maxRecDepth 100000 in
theorem begin50 (B : BSt) (h : B.Ok) (hid : B.id < 4611686018427387904) (at' : Int) :
    CallsA Try.prog 50 [.e (.s (.ptr 0 0)), .d (.int .i64 at')] (rhb B) fun r H' => r = begR B at' ∧ H' = rhb4 (begB B at') := by
  refine CallsA.re (calls_of fine e50ok 4 50 _ _ ?_)
  have hlen := h.acc.len
  have hidn := h.acc.idn
  have htm := h.acc.tm
  show (t50 B.L B.L.es.length (pkG B.L.es) B.ms.length (fun j => B.ms.getD j Mi.zero) B.now B.id B.tmo at').sat _ _
  have key : ∀ e : Int, begE B at' = e → e ≠ 0 → Re 4 [.tup [.s (.c (.int .i64 0)), .s (.c (.int .i64 e))]] (rH B.L B.L.es.length (pkG B.L.es) B.ms.length (miF fun j => B.ms.getD j Mi.zero) B.now B.id B.tmo) fun fr H2 => ∃ r2, fr = [r2] ∧ r2 = begR B at' ∧ H2 = rhb4 (begB B at') := by
    intro e he h0
    refine .toD (Re.ren [some 0, some 1, none, none, some 2, some 3] rfl rfl rfl (.refl ⟨_, rfl, ?_, ?_⟩))
    · simp [begR, begN, he, h0, AV.toD, EV.toD, SV.toD]
    · have : begB B at' = B := by rw [begB, he, if_neg h0]
      rw [this]; rfl
  rw [t50_eq]
  by_cases he : earlyB B at'
  · have e10 := key 10 (by rw [begE, if_pos he]) (by decide)
    unfold earlyB at he
    refine ⟨fun _ => ⟨fun c2 => ⟨fun _ => e10, fun c3 => ?_⟩, fun _ => e10⟩, fun _ => e10⟩
    simp only [decide_eq_false_iff_not, decide_eq_true_eq] at c2 c3
    omega
  · have hne := not_early he
    refine ⟨fun _ => ⟨fun _ => ⟨fun c => ?_, fun _ => ⟨fun c => ?_, fun c => ?_⟩⟩, fun c => ?_⟩, fun c => ?_⟩
    · simp only [decide_eq_true_eq] at c; omega
    · refine key 2 ?_ (by decide)
      have : B.ms.length = 64 := by simp only [decide_eq_true_eq] at c; omega
      rw [begE, if_neg he, if_pos this]
    · have h64 : B.ms.length ≠ 64 := by simp only [decide_eq_false_iff_not] at c; omega
      have hE : begE B at' = 0 := by rw [begE, if_neg he, if_neg h64]
      have hO : openE B.id at' = 0 := by
        unfold openE
        rw [if_neg (by omega), if_neg (by unfold TimeP; omega)]
      have hw : IntKind.i64.wrap (B.id + 1) = B.id + 1 := wrap64 (by unfold I64; omega)
      have hB : begB B at' = ⟨B.L, at', putM B.ms (closeM (lastM B.ms) at') ++ [openM B.id at'], B.id + 1, B.tmo⟩ := by rw [begB, if_pos hE]
      clear key
      refine ⟨fun c2 => ?_, fun c2 => ?_⟩
      · have hn : 0 < B.ms.length := by simpa using c2
        obtain ⟨f1, f2, f3, f4⟩ := lastM_facts h.acc hn
        obtain ⟨i1, i2⟩ := idx_last hn hlen
        have hC : closeE (lastM B.ms) at' = 0 := closeE_zero f1 f3 (by omega) (by omega)
        have hlast : B.ms.getD (B.ms.length - 1) Mi.zero = lastM B.ms := rfl
        rw [i2, hw, hlast, hC, hO, rowMi_miF, rowPk_pkG]
        have leaf : Re 4 [.tup [.s (.d (.int .i64 (openM B.id at').id)), .s (.c (.int .i64 0))]]
            [.cells 72 [.ptr 1 0, .sl 9 15 0 ((putM B.ms (closeM (lastM B.ms) at')).length + 1) 0, .d (.int .i64 (B.id + 1)), .d (.int .i64 B.tmo), .d (.int .i64 at')], .cells 44 (rc B.L 5 B.L.es.length), .dead, .dead, .cells 80 (closeM (lastM B.ms) at').cells, .row 36 4 B.L.es.length (pkG B.L.es), .dead, .cells 80 [.d (.int .i64 (openM B.id at').id), .d (.int .i64 (openM B.id at').frm), .d (.int .i64 (-1)), .d (.int .i64 0), .d (.int .i64 0), .d (.int .i64 0), .d (.int .i64 0), .d (.int .i64 0), .d (.int .i64 0), .d (.int .i64 0), .d (.int .i64 0), .d (.int .i64 0), .d (.int .i64 0), .d (.int .i64 0), .d (.int .i64 0)],
              .lit 80 15 [(openM B.id at').vals], .row 80 15 ((putM B.ms (closeM (lastM B.ms) at')).length + 1) (appendG (miG (putM B.ms (closeM (lastM B.ms) at'))) 0 (putM B.ms (closeM (lastM B.ms) at')).length (fun j => (chunksOf 15 1 (openM B.id at').vals).getD j []) 0)]
            fun fr H2 => ∃ r2, fr = [r2] ∧ r2 = begR B at' ∧ H2 = rhb4 (begB B at') := by
          refine Re.row 9 (miG (putM B.ms (closeM (lastM B.ms) at') ++ [openM B.id at'])) rfl (app_mi _ _ rfl (fun _ _ => rfl) rfl) (.toD (Re.ren [some 0, some 1, none, none, some 5, some 9] rfl rfl rfl (.refl ⟨_, rfl, ?_, ?_⟩)))
          · simp [begR, begN, hE, openM, AV.toD, EV.toD, SV.toD]
          · rw [hB]
            simp [rhb4, putM_len, AB.toD, SV.toD, rc]
        have hlp : (putM B.ms (closeM (lastM B.ms) at')).length ≤ 64 := by rw [putM_len]; exact hlen
        refine ⟨i1, by omega, ⟨rfl, ⟨⟨⟨rfl, miRow_F _ _⟩, rfl, pkRow_G _ _⟩, hlen⟩, rfl, rfl, ⟨by omega, by omega, by unfold most; omega⟩, leaf⟩, ⟨rfl, rfl, rfl, rfl, ⟨⟨⟨rfl, miRow_F _ _⟩, rfl, pkRow_G _ _⟩, hlen⟩, rfl, rfl, ⟨by omega, by omega, by unfold most; omega⟩, leaf⟩⟩
      · have hn : B.ms = [] := by
          have : ¬ 0 < B.ms.length := by simpa using c2
          exact List.eq_nil_of_length_eq_zero (by omega)
        rw [hw, hO]
        refine ⟨rfl, rfl, ⟨by omega, by simp [chunks_len], by unfold most; omega⟩, ?_⟩
        refine Re.row 6 (miG ([] ++ [openM B.id at'])) rfl ?_ (.toD (Re.ren [some 0, some 1, none, none, some 2, some 6] rfl rfl rfl (.refl ⟨_, rfl, ?_, ?_⟩)))
        · rw [hn]
          exact app_mi [] _ rfl (fun j hj => by cases hj) rfl
        · simp [begR, begN, hE, openM, AV.toD, EV.toD, SV.toD]
        · rw [hB, hn]
          simp [rhb4, putM, AB.toD, SV.toD, rc]
    · simp only [decide_eq_false_iff_not] at c; omega
    · simp only [decide_eq_false_iff_not] at c; omega

set_option maxRecDepth 100000 in
theorem send51 (B : BSt) (h : B.Ok) (size at' : Int) :
    CallsA Try.prog 51 [.e (.s (.ptr 0 0)), .d (.int .i64 size), .d (.int .i64 at')] (rhb B) fun r H' => r = sbR B size at' ∧ H' = rhb4 (sbB B size at') := by
  refine CallsA.re (calls_of fine e51ok 4 51 _ _ ?_)
  have hlen := h.acc.len
  have htm := h.acc.tm
  show (t51 B.L B.L.es.length (pkG B.L.es) B.ms.length (fun j => B.ms.getD j Mi.zero) B.now B.id B.tmo size at').sat _ _
  have key : ∀ (e : Int) (y : SV), sbE B size at' = e → e ≠ 0 → (y = .c (.int .i64 e) ∨ y = .d (.int .i64 e)) → Re 4 [.tup [.s (.c (.int .u64 0)), .s y]] (rH B.L B.L.es.length (pkG B.L.es) B.ms.length (miF fun j => B.ms.getD j Mi.zero) B.now B.id B.tmo) fun fr H2 => ∃ r2, fr = [r2] ∧ r2 = sbR B size at' ∧ H2 = rhb4 (sbB B size at') := by
    intro e y he h0 hy
    refine Re.ren [some 0, some 1, none, none, some 2, some 3] (fr2 := [.tup [.s (.c (.int .u64 0)), .s y]]) (by rcases hy with rfl | rfl <;> rfl) rfl rfl (.toD (.refl ⟨_, rfl, ?_, ?_⟩))
    · rcases hy with rfl | rfl <;> simp [sbR, sbN, he, h0, AV.toD, EV.toD, SV.toD]
    · have : sbB B size at' = B := by rw [sbB, he, if_neg h0]
      rw [this]; rfl
  rw [t51_eq]
  by_cases he : earlyB B at'
  · have e10 := key 10 _ (by rw [sbE, if_pos he]) (by decide) (.inl rfl)
    unfold earlyB at he
    refine ⟨fun _ => ⟨fun c2 => ⟨fun _ => e10, fun c3 => ?_⟩, fun _ => e10⟩, fun _ => e10⟩
    simp only [decide_eq_false_iff_not, decide_eq_true_eq] at c2 c3
    omega
  · have hne := not_early he
    refine ⟨fun _ => ⟨fun _ => ⟨fun c => ?_, fun _ => ⟨fun c => ?_, fun c => ?_⟩⟩, fun c => ?_⟩, fun c => ?_⟩
    · simp only [decide_eq_true_eq] at c; omega
    · refine key 15 _ ?_ (by decide) (.inl rfl)
      have : B.ms.length = 0 := by have := beq_iff_eq.1 c; omega
      rw [sbE, if_neg he, if_pos this]
    · have hn : 0 < B.ms.length := by
        have : B.ms.length ≠ 0 := by have := beq_eq_false_iff_ne.1 c; omega
        omega
      obtain ⟨i1, i2⟩ := idx_last hn hlen
      have hE : sbE B size at' = if sndE (lastM B.ms) size = 0 then sendE B.L (lastM B.ms).id size at' else sndE (lastM B.ms) size := by rw [sbE, if_neg he, if_neg (by omega)]
      have hlast : B.ms.getD (B.ms.length - 1) Mi.zero = lastM B.ms := rfl
      have heta : (⟨B.L.room, B.L.first, B.L.next, B.L.last, B.L.es⟩ : LSt) = B.L := rfl
      have hsid : (sndM (lastM B.ms) size).id = (lastM B.ms).id := rfl
      rw [i2, hlast, rowMi_miF, rowPk_pkG, heta, hsid]
      rw [rowPk_pkG (sendL B.L (lastM B.ms).id size at').es]
      have errA : sndE (lastM B.ms) size = 0 → (sendE B.L (lastM B.ms).id size at' != 0) = true → Re 4 [.tup [.s (.c (.int .u64 0)), .s (.d (.int .i64 (sendE B.L (lastM B.ms).id size at')))]]
          [.cells 72 [.ptr 1 0, .sl 3 15 0 B.ms.length 0, .d (.int .i64 B.id), .d (.int .i64 B.tmo), .d (.int .i64 B.now)], .cells 44 (rc (sendL B.L (lastM B.ms).id size at') 5 (sendL B.L (lastM B.ms).id size at').es.length), .dead, .row 80 15 B.ms.length (miF fun j => B.ms.getD j Mi.zero), .cells 80 (sndM (lastM B.ms) size).cells, .row 36 4 (sendL B.L (lastM B.ms).id size at').es.length (pkG (sendL B.L (lastM B.ms).id size at').es)]
          fun fr H2 => ∃ r2, fr = [r2] ∧ r2 = sbR B size at' ∧ H2 = rhb4 (sbB B size at') := by
        intro h1 c2
        have h2 : sendE B.L (lastM B.ms).id size at' ≠ 0 := by simpa using c2
        have hL : sendL B.L (lastM B.ms).id size at' = B.L := by rw [sendL, if_neg h2]
        have he' : sbE B size at' = sendE B.L (lastM B.ms).id size at' := by rw [hE, if_pos h1]
        rw [hL]
        refine Re.ren [some 0, some 1, none, none, some 5, some 3] rfl rfl rfl (.toD (.refl ⟨_, rfl, ?_, ?_⟩))
        · simp [sbR, sbN, he', h2, AV.toD, EV.toD, SV.toD]
        · have : sbB B size at' = B := by rw [sbB, he', if_neg h2]
          rw [this]; rfl
      have good : sndE (lastM B.ms) size = 0 → (sendE B.L (lastM B.ms).id size at' != 0) = false → Re 4 [.tup [.s (.d (.int .u64 (sendN B.L (lastM B.ms).id size at'))), .s (.c (.int .i64 0))]]
          [.cells 72 [.ptr 1 0, .sl 7 15 0 (putM B.ms (sndM (lastM B.ms) size)).length 0, .d (.int .i64 B.id), .d (.int .i64 B.tmo), .d (.int .i64 at')], .cells 44 (rc (sendL B.L (lastM B.ms).id size at') 6 (sendL B.L (lastM B.ms).id size at').es.length), .dead, .dead, .cells 80 (sndM (lastM B.ms) size).cells, .dead, .row 36 4 (sendL B.L (lastM B.ms).id size at').es.length (pkG (sendL B.L (lastM B.ms).id size at').es), .row 80 15 (putM B.ms (sndM (lastM B.ms) size)).length (miG (putM B.ms (sndM (lastM B.ms) size)))]
          fun fr H2 => ∃ r2, fr = [r2] ∧ r2 = sbR B size at' ∧ H2 = rhb4 (sbB B size at') := by
        intro h1 c2
        have h2 : sendE B.L (lastM B.ms).id size at' = 0 := by simpa using c2
        have hE0 : sbE B size at' = 0 := by rw [hE, if_pos h1, h2]
        refine .toD (Re.ren [some 0, some 1, none, none, some 6, some 7] rfl rfl rfl (.refl ⟨_, rfl, ?_, ?_⟩))
        · have : sendN B.L (lastM B.ms).id size at' = B.L.next := by rw [sendN, if_pos h2]
          simp [sbR, sbN, hE0, AV.toD, EV.toD, SV.toD, this]
        · have : sbB B size at' = ⟨sendL B.L (lastM B.ms).id size at', at', putM B.ms (sndM (lastM B.ms) size), B.id, B.tmo⟩ := by rw [sbB, if_pos hE0]
          rw [this]
          simp [rhb4, putM_len, AB.toD, SV.toD, rc]
      have errB : (sndE (lastM B.ms) size != 0) = true → _ := fun c2 => by
        have h1 : sndE (lastM B.ms) size ≠ 0 := by simpa using c2
        exact key _ (.d (.int .i64 (sndE (lastM B.ms) size))) (by rw [hE, if_neg h1]) h1 (.inr rfl)
      have no : (sndE (lastM B.ms) size == 0) = false → (sndE (lastM B.ms) size != 0) = false → False := by
        intro c1 c2
        have h1 : sndE (lastM B.ms) size = 0 := by simpa using c2
        rw [h1] at c1
        cases c1
      have yes : (sndE (lastM B.ms) size == 0) = true → sndE (lastM B.ms) size = 0 := fun c => by simpa using c
      refine ⟨i1, by omega, ⟨fun c1 => ⟨⟨⟨rfl, pkRow_G _ _⟩, h.led⟩, fun c2 => errA (yes c1) c2, fun c2 => ⟨⟨⟨⟨rfl, miRow_F _ _⟩, rfl, pkRow_G _ _⟩, hlen⟩, good (yes c1) c2⟩⟩, fun c1 => ⟨fun c2 => errB c2, fun c2 => (no c1 c2).elim⟩⟩,
        ⟨rfl, rfl, rfl, fun c1 => ⟨⟨⟨rfl, pkRow_G _ _⟩, h.led⟩, fun c2 => errA (yes c1) c2, fun c2 => ⟨⟨⟨⟨rfl, miRow_F _ _⟩, rfl, pkRow_G _ _⟩, hlen⟩, good (yes c1) c2⟩⟩, fun c1 => ⟨fun c2 => errB c2, fun c2 => (no c1 c2).elim⟩⟩⟩
    · simp only [decide_eq_false_iff_not] at c; omega
    · simp only [decide_eq_false_iff_not] at c; omega

end Go.Proofs.Ythckkoledhjmeaa.Ev
