/-
  Books: what the program's functions do (Mis, Begin, Send, Ack, Lose, Take).
-/
import Derived.Test.YthckkoledhjmeaaBM
import Derived.Test.YthckkoledhjmeaaBO
namespace Go.Proofs.Ythckkoledhjmeaa.Ev
open Go

/-- Books in memory; and once their row has moved. -/
def bhp (B : BSt) : Heap := bH B.L B.ms.length (miG B.ms) B.now B.id B.tmo
def bhp4 (B : BSt) : Heap :=
  [.cells 95 [.ptr 1 0, .d (.int .i64 B.now), .sl 4 15 0 B.ms.length 0, .d (.int .i64 B.id), .d (.int .i64 B.tmo)], .cells 86 (lc B.L 2), .pm B.L.es, .dead, .row 80 15 B.ms.length (miG B.ms)]

def begR (B : BSt) (at' : Int) : AV := .tup [.s (.d (.int .i64 (begN B at'))), .s (.d (.int .i64 (begE B at')))]
def sbR (B : BSt) (size at' : Int) : AV := .tup [.s (.d (.int .u64 (sbN B size at'))), .s (.d (.int .i64 (sbE B size at')))]
def enR (B : BSt) (seq at' : Int) : AV := .tup [.agg (enP B seq at').cells, .s (.d (.int .i64 (enE B seq at')))]
def tkR (B : BSt) : AV := .tup [.agg (tkM B).cells, .s (.d (.bool (decide (tkP B))))]

theorem e32ok : EntsOk Try.prog e32 := ⟨k32, k56, k81, s57ok, k58, s59ok, trivial⟩
theorem e33ok : EntsOk Try.prog e33 := ⟨k33, k56, k81, s60ok, k58, s12ok, trivial⟩
theorem e34ok : EntsOk Try.prog e34 := ⟨k34, k61, k62, k56, k81, s14ok, k64, k84, s71ok, trivial⟩
theorem e35ok : EntsOk Try.prog e35 := ⟨k35, k61, k63, k56, k81, s14ok, k64, k85, s70ok, trivial⟩
theorem e37ok : EntsOk Try.prog e37 := ⟨k37, s38ok, s49ok, trivial⟩
theorem e28ok : EntsOk Try.prog e28 := ⟨k28, s49ok, trivial⟩

theorem miV_len (m : Mi) : m.vals.length = 15 := rfl

theorem splice_mi {ms : List Mi} {j : Nat} (hj : j < ms.length) (m : Mi) : ∀ i, i < ms.length → spliceG (miG ms) j 0 m.vals i = miG (ms.set j m) i := by
  intro i hi
  simp only [spliceG, miG_get]
  have e : (ms.set j m).getD i Mi.zero = if j = i then m else ms.getD i Mi.zero := by
    rw [getD_lt (by simpa using hi), List.getElem_set, getD_lt hi]
  rw [e]
  split
  · rename_i h
    rw [if_pos h.symm, List.take_zero, List.nil_append, List.drop_eq_nil_of_le (by simp [miV_len]), List.append_nil]
  · rename_i h
    rw [if_neg (fun e => h e.symm)]

theorem app_mi (ms : List Mi) (m : Mi) {g g2 : Nat → List Value} {n : Nat} (hn : n = ms.length) (hg : ∀ j, j < ms.length → g j = miG ms j) (h2 : g2 0 = m.vals) : ∀ j, j < n + 1 → appendG g 0 n g2 0 j = miG (ms ++ [m]) j := by
  subst hn
  intro j hj
  simp only [appendG, miG_get]
  rw [getD_app (by simpa using hj)]
  split
  · rename_i h
    rw [Nat.zero_add, hg j h, miG_get]
  · have : j = ms.length := by omega
    subst this
    rw [Nat.sub_self, Nat.add_zero, h2]

theorem idx_last {n : Nat} (h : 0 < n) (h2 : n ≤ 64) : (0 ≤ IntKind.i64.wrap ((n : Int) - 1) ∧ IntKind.i64.wrap ((n : Int) - 1) < n) ∧ 0 + (IntKind.i64.wrap ((n : Int) - 1)).toNat = n - 1 := by
  have : IntKind.i64.wrap ((n : Int) - 1) = (n : Int) - 1 := wrap64 (by unfold I64; omega)
  rw [this]
  omega

set_option maxRecDepth 100000 in
theorem mis28 (B : BSt) (h : B.Ok) : CallsA Try.prog 28 [.e (.s (.ptr 0 0))] (bhp B) fun r H' => r = .e (.s (.sl 4 15 0 B.ms.length 0)) ∧ H' = bhp B ++ [.row 80 15 B.ms.length (miG B.ms)] := by
  refine CallsA.re (calls_of fine e28ok 2 28 _ _ ?_)
  have hlen := h.acc.len
  show (t28 B.L B.ms.length (fun j => B.ms.getD j Mi.zero) B.now B.id B.tmo).sat _ _
  rw [t28_eq]
  refine ⟨⟨by omega, by unfold most; omega⟩, ?_⟩
  refine Re.row 4 (miG B.ms) rfl (fun j _ => by rw [Nat.zero_add]; rfl) (.refl ⟨_, rfl, rfl, rfl⟩)

set_option maxRecDepth 100000 in
theorem begin32 (B : BSt) (h : B.Ok) (hid : B.id < 4611686018427387904) (at' : Int) :
    CallsA Try.prog 32 [.e (.s (.ptr 0 0)), .d (.int .i64 at')] (bhp B) fun r H' => r = begR B at' ∧ H' = bhp4 (begB B at') := by
  refine CallsA.re (calls_of fine e32ok 4 32 _ _ ?_)
  have hlen := h.acc.len
  have hidn := h.acc.idn
  have htm := h.acc.tm
  show (t32 B.L B.ms.length (fun j => B.ms.getD j Mi.zero) B.now B.id B.tmo at').sat _ _
  have key : ∀ e : Int, begE B at' = e → e ≠ 0 → Re 4 [.tup [.s (.c (.int .i64 0)), .s (.c (.int .i64 e))]] (bH B.L B.ms.length (miF fun j => B.ms.getD j Mi.zero) B.now B.id B.tmo) fun fr H2 => ∃ r2, fr = [r2] ∧ r2 = begR B at' ∧ H2 = bhp4 (begB B at') := by
    intro e he h0
    refine .toD (Re.ren [some 0, some 1, some 2, none, some 3] rfl rfl rfl (.refl ⟨_, rfl, ?_, ?_⟩))
    · simp [begR, begN, he, h0, AV.toD, EV.toD, SV.toD]
    · have : begB B at' = B := by rw [begB, he, if_neg h0]
      rw [this]; rfl
  rw [t32_eq]
  by_cases he : earlyB B at'
  · have e10 := key 10 (by rw [begE, if_pos he]) (by decide)
    unfold earlyB at he
    refine ⟨fun _ => e10, fun c => ⟨fun _ => e10, fun c2 => ?_⟩⟩
    simp only [decide_eq_false_iff_not] at c c2
    omega
  · have hne := not_early he
    refine ⟨fun c => ?_, fun _ => ⟨fun c => ?_, fun _ => ⟨fun c => ?_, fun c => ?_⟩⟩⟩
    · simp only [decide_eq_true_eq] at c; omega
    · simp only [decide_eq_true_eq] at c; omega
    · refine key 2 ?_ (by decide)
      have : B.ms.length = 64 := by simp at c; omega
      rw [begE, if_neg he, if_pos this]
    · have h64 : B.ms.length ≠ 64 := by simp at c; omega
      have hE : begE B at' = 0 := by rw [begE, if_neg he, if_neg h64]
      have hO : openE B.id at' = 0 := by
        unfold openE
        rw [if_neg (by omega), if_neg (by unfold TimeP; omega)]
      have hw : IntKind.i64.wrap (B.id + 1) = B.id + 1 := wrap64 (by unfold I64; omega)
      clear key
      rw [hO, hw]
      refine ⟨fun _ => ⟨fun c2 => ?_, fun c2 => ?_⟩, fun c => absurd c (by decide)⟩
      · have hn : 0 < B.ms.length := by simpa using c2
        obtain ⟨f1, f2, f3, f4⟩ := lastM_facts h.acc hn
        obtain ⟨i1, i2⟩ := idx_last hn hlen
        have hC : closeE (lastM B.ms) at' = 0 := closeE_zero f1 f3 (by omega) (by omega)
        rw [i2]
        have hC' : closeE (B.ms.getD (B.ms.length - 1) Mi.zero) at' = 0 := hC
        refine ⟨i1, by omega, fun _ => ⟨by omega, rfl, ⟨by omega, by simp [chunks_len], by unfold most; omega⟩, ?_⟩, fun c => ?_⟩
        · refine Re.row 6 (miG (putM B.ms (closeM (lastM B.ms) at') ++ [openM B.id at'])) rfl ?_ (.toD (Re.ren [some 0, some 1, some 2, none, some 6] rfl rfl rfl (.refl ⟨_, rfl, ?_, ?_⟩)))
          · have hset := putM_set h.acc.ids (j := B.ms.length - 1) (by omega) (m := closeM (lastM B.ms) at') rfl
            refine app_mi _ _ (by rw [putM_len]) (fun j hj => ?_) rfl
            rw [putM_len] at hj
            rw [hset, ← splice_mi (by omega) _ j hj]
            rfl
          · simp [begR, begN, hE, openM, AV.toD, EV.toD, SV.toD]
          · have : begB B at' = ⟨B.L, at', putM B.ms (closeM (lastM B.ms) at') ++ [openM B.id at'], B.id + 1, B.tmo⟩ := by rw [begB, if_pos hE]
            rw [this]
            simp [bhp4, putM_len, AB.toD, SV.toD, lc]
        · exfalso
          have : (closeE (B.ms.getD (B.ms.length - 1) Mi.zero) at' == 0) = false := c
          rw [hC'] at this
          cases this
      · have hn : B.ms = [] := by
          have : ¬ 0 < B.ms.length := by simpa using c2
          exact List.eq_nil_of_length_eq_zero (by omega)
        refine ⟨rfl, ⟨by omega, by simp [chunks_len], by unfold most; omega⟩, ?_⟩
        refine Re.row 6 (miG ([] ++ [openM B.id at'])) rfl ?_ (.toD (Re.ren [some 0, some 1, some 2, none, some 6] rfl rfl rfl (.refl ⟨_, rfl, ?_, ?_⟩)))
        · rw [hn]
          exact app_mi [] _ rfl (fun j hj => by cases hj) rfl
        · simp [begR, begN, hE, openM, AV.toD, EV.toD, SV.toD]
        · have : begB B at' = ⟨B.L, at', putM B.ms (closeM (lastM B.ms) at') ++ [openM B.id at'], B.id + 1, B.tmo⟩ := by rw [begB, if_pos hE]
          rw [this, hn]
          simp [bhp4, putM, AB.toD, SV.toD, lc]

set_option maxRecDepth 100000 in
theorem send33 (B : BSt) (h : B.Ok) (size at' : Int) :
    CallsA Try.prog 33 [.e (.s (.ptr 0 0)), .d (.int .i64 size), .d (.int .i64 at')] (bhp B) fun r H' => r = sbR B size at' ∧ H' = bhp4 (sbB B size at') := by
  refine CallsA.re (calls_of fine e33ok 4 33 _ _ ?_)
  have hlen := h.acc.len
  show (t33 B.L B.ms.length (fun j => B.ms.getD j Mi.zero) B.now B.id B.tmo size at').sat _ _
  have key : ∀ (e : Int) (y : SV), sbE B size at' = e → e ≠ 0 → (y = .c (.int .i64 e) ∨ y = .d (.int .i64 e)) → Re 4 [.tup [.s (.c (.int .u64 0)), .s y]] (bH B.L B.ms.length (miF fun j => B.ms.getD j Mi.zero) B.now B.id B.tmo) fun fr H2 => ∃ r2, fr = [r2] ∧ r2 = sbR B size at' ∧ H2 = bhp4 (sbB B size at') := by
    intro e y he h0 hy
    refine Re.ren [some 0, some 1, some 2, none, some 3] (fr2 := [.tup [.s (.c (.int .u64 0)), .s y]]) (by rcases hy with rfl | rfl <;> rfl) rfl rfl (.toD (.refl ⟨_, rfl, ?_, ?_⟩))
    · rcases hy with rfl | rfl <;> simp [sbR, sbN, he, h0, AV.toD, EV.toD, SV.toD]
    · have : sbB B size at' = B := by rw [sbB, he, if_neg h0]
      rw [this]; rfl
  rw [t33_eq]
  by_cases he : earlyB B at'
  · have e10 := key 10 _ (by rw [sbE, if_pos he]) (by decide) (.inl rfl)
    unfold earlyB at he
    refine ⟨fun _ => e10, fun c => ⟨fun _ => e10, fun c2 => ?_⟩⟩
    simp only [decide_eq_false_iff_not] at c c2
    omega
  · have hne := not_early he
    refine ⟨fun c => ?_, fun _ => ⟨fun c => ?_, fun _ => ⟨fun c => ?_, fun c => ?_⟩⟩⟩
    · simp only [decide_eq_true_eq] at c; omega
    · simp only [decide_eq_true_eq] at c; omega
    · refine key 15 _ ?_ (by decide) (.inl rfl)
      have : B.ms.length = 0 := by have := beq_iff_eq.1 c; omega
      rw [sbE, if_neg he, if_pos this]
    · have hn : 0 < B.ms.length := by
        have : B.ms.length ≠ 0 := by have := beq_eq_false_iff_ne.1 c; omega
        omega
      obtain ⟨i1, i2⟩ := idx_last hn hlen
      have hE : sbE B size at' = if sndE (lastM B.ms) size = 0 then sendE B.L (lastM B.ms).id size at' else sndE (lastM B.ms) size := by rw [sbE, if_neg he, if_neg (by omega)]
      rw [i2]
      have hlast : B.ms.getD (B.ms.length - 1) Mi.zero = lastM B.ms := rfl
      rw [hlast]
      refine ⟨i1, by omega, fun c1 => ⟨h.led, fun c2 => ?_, fun c2 => ⟨i1, rfl, by omega, ?_⟩⟩, fun c1 => ⟨fun c2 => ?_, fun c2 => ?_⟩⟩
      · have h1 : sndE (lastM B.ms) size = 0 := by simpa using c1
        have h2 : sendE B.L (lastM B.ms).id size at' ≠ 0 := by
          have : (sendE B.L (lastM B.ms).id size at' != 0) = true := c2
          simpa using this
        have hL : sendL B.L (lastM B.ms).id size at' = B.L := by rw [sendL, if_neg h2]
        show Re 4 _ [_, .cells 86 (lc (sendL B.L (lastM B.ms).id size at') 2), .pm (sendL B.L (lastM B.ms).id size at').es, _] _
        rw [hL]
        exact key _ _ (by rw [hE, if_pos h1]) h2 (.inr rfl)
      · have h1 : sndE (lastM B.ms) size = 0 := by simpa using c1
        have h2 : sendE B.L (lastM B.ms).id size at' = 0 := by
          have : (sendE B.L (lastM B.ms).id size at' != 0) = false := c2
          simpa using this
        have hE0 : sbE B size at' = 0 := by rw [hE, if_pos h1, h2]
        have hset := putM_set h.acc.ids (j := B.ms.length - 1) (by omega) (m := sndM (lastM B.ms) size) rfl
        refine Re.row 3 (miG (putM B.ms (sndM (lastM B.ms) size))) rfl (fun j hj => by rw [hset, ← splice_mi (by omega) _ j hj]; rfl) (.toD (Re.ren [some 0, some 1, some 2, none, some 3] rfl rfl rfl (.refl ⟨_, rfl, ?_, ?_⟩)))
        · have : sendN B.L (sndM (lastM B.ms) size).id size at' = B.L.next := by
            show sendN B.L (lastM B.ms).id size at' = _
            rw [sendN, if_pos h2]
          simp [sbR, sbN, hE0, AV.toD, EV.toD, SV.toD, this]
        · have : sbB B size at' = ⟨sendL B.L (lastM B.ms).id size at', at', putM B.ms (sndM (lastM B.ms) size), B.id, B.tmo⟩ := by rw [sbB, if_pos hE0]
          rw [this]
          simp [bhp4, putM_len, AB.toD, SV.toD, lc, sndM]
      · have h1 : sndE (lastM B.ms) size ≠ 0 := by simpa using c2
        exact key _ _ (by rw [hE, if_neg h1]) h1 (.inr rfl)
      · exfalso
        have h1 : sndE (lastM B.ms) size = 0 := by simpa using c2
        rw [h1] at c1
        cases c1

theorem idx_end {B : BSt} (h : B.Ok) {p : Pkt} (hp : p ∈ B.L.es) : ∃ j, j < B.ms.length ∧ IntKind.i64.wrap (p.mi - (B.ms.getD 0 Mi.zero).id) = (j : Int) ∧ ofM B.ms p.mi = B.ms.getD j Mi.zero ∧ (B.ms.getD j Mi.zero).id = p.mi := by
  obtain ⟨j, hj, e1, e2, e3⟩ := h.acc.index hp
  refine ⟨j, hj, ?_, e3, e2⟩
  have h0 := h.acc.ids 0 (by omega)
  have hlen := h.acc.len
  have : p.mi - (B.ms.getD 0 Mi.zero).id = j := by omega
  rw [this]
  exact wrap64 (by unfold I64; omega)

set_option maxRecDepth 100000 in
theorem ack34 (B : BSt) (h : B.Ok) (seq at' : Int) :
    CallsA Try.prog 34 [.e (.s (.ptr 0 0)), .d (.int .u64 seq), .d (.int .i64 at')] (bhp B) fun r H' => r = enR B seq at' ∧ H' = bhp4 (akB B seq at') := by
  refine CallsA.re (calls_of fine e34ok 5 34 _ _ ?_)
  have hlen := h.acc.len
  show (t34 B.L B.ms.length (fun j => B.ms.getD j Mi.zero) B.now B.id B.tmo seq at').sat _ _
  have key : ∀ (e : Int) (y : SV), enE B seq at' = e → e ≠ 0 → (y = .c (.int .i64 e) ∨ y = .d (.int .i64 e)) → Re 4 [.tup [.agg [.c (.int .u64 0), .c (.int .i64 0), .c (.int .i64 0), .c (.int .i64 0)], .s y]] (bH B.L B.ms.length (miF fun j => B.ms.getD j Mi.zero) B.now B.id B.tmo) fun fr H2 => ∃ r2, fr = [r2] ∧ r2 = enR B seq at' ∧ H2 = bhp4 (akB B seq at') := by
    intro e y he h0 hy
    refine Re.ren [some 0, some 1, some 2, none, some 3] (fr2 := [.tup [.agg [.c (.int .u64 0), .c (.int .i64 0), .c (.int .i64 0), .c (.int .i64 0)], .s y]]) (by rcases hy with rfl | rfl <;> rfl) rfl rfl (.toD (.refl ⟨_, rfl, ?_, ?_⟩))
    · rcases hy with rfl | rfl <;> simp [enR, enP, he, h0, AV.toD, EV.toD, SV.toD, Pkt.zero, Pkt.cells]
    · have : akB B seq at' = B := by rw [akB, he, if_neg h0]
      rw [this]; rfl
  rw [t34_eq]
  by_cases he : earlyB B at'
  · have e10 := key 10 _ (by rw [enE, if_pos he]) (by decide) (.inl rfl)
    unfold earlyB at he
    refine ⟨fun _ => e10, fun c => ⟨fun _ => e10, fun c2 => ?_⟩⟩
    simp only [decide_eq_false_iff_not] at c c2
    omega
  · have hne := not_early he
    have hE : enE B seq at' = takeE B.L seq := by rw [enE, if_neg he]
    refine ⟨fun c => ?_, fun _ => ⟨fun c => ?_, fun _ => ⟨fun c => ?_, fun c => ?_⟩⟩⟩
    · simp only [decide_eq_true_eq] at c; omega
    · simp only [decide_eq_true_eq] at c; omega
    · have h0 : takeE B.L seq ≠ 0 := by simpa using c
      have hL : takeL B.L seq = B.L := by rw [takeL, if_neg h0]
      show Re 4 _ [_, .cells 86 (lc (takeL B.L seq) 2), .pm (takeL B.L seq).es, _] _
      rw [hL]
      exact key _ _ hE h0 (.inr rfl)
    · have h0 : takeE B.L seq = 0 := by simpa using c
      have hE0 : enE B seq at' = 0 := by rw [hE, h0]
      obtain ⟨_, _, hh⟩ := enE_zero hE0
      have hP : takeP B.L seq = findP B.L.es seq := by rw [takeP, if_pos h0]
      have hmem := (take_split seq 0 hh).2.2
      have hA := ((h.acc.later hne.1 hne.2).split hh).ack.1
      rw [hP]
      generalize hp : findP B.L.es seq = p at *
      obtain ⟨j, hj, w1, w2, w3⟩ := idx_end h hmem
      rw [w1]
      rw [w2] at hA
      clear key c
      have hjj : 0 + (j : Int).toNat = j := by omega
      rw [hjj]
      have leaf : Re 4 [.tup [.agg p.cells, .s (.c (.int .i64 0))]] [.cells 95 [.ptr 1 0, .d (.int .i64 at'), .sl 3 15 0 B.ms.length 0, .d (.int .i64 B.id), .d (.int .i64 B.tmo)], .cells 86 (lc (takeL B.L seq) 2), .pm (takeL B.L seq).es, .row 80 15 B.ms.length (spliceG (miG B.ms) j 0 (ackM (B.ms.getD j Mi.zero) p.size p.sent at').vals)] fun fr H2 => ∃ r2, fr = [r2] ∧ r2 = enR B seq at' ∧ H2 = bhp4 (akB B seq at') := by
        have hid : (ackM (B.ms.getD j Mi.zero) p.size p.sent at').id = (B.ms.getD j Mi.zero).id := by unfold ackM; split <;> rfl
        have hset := putM_set h.acc.ids hj hid
        refine Re.row 3 (miG (putM B.ms (ackM (B.ms.getD j Mi.zero) p.size p.sent at'))) rfl (fun i hi => by rw [hset, splice_mi hj _ i hi]) (.toD (Re.ren [some 0, some 1, some 2, none, some 3] rfl rfl rfl (.refl ⟨_, rfl, ?_, ?_⟩)))
        · simp [enR, enP, hE0, AV.toD, EV.toD, SV.toD, hp, Pkt.cells]
        · have : akB B seq at' = ⟨takeL B.L seq, at', putM B.ms (ackM (B.ms.getD j Mi.zero) p.size p.sent at'), B.id, B.tmo⟩ := by rw [akB, if_pos hE0, hp, w2]
          rw [this]
          simp [bhp4, putM_len, AB.toD, SV.toD, lc]
      have both1 : ∀ c : Bool, (ackE (B.ms.getD j Mi.zero) p.size p.sent at' == 0) = c → c = true := by
        intro c hc; rw [hA] at hc; exact hc.symm
      refine ⟨rfl, rfl, fun _ => ⟨⟨by omega, by omega⟩, by simp [chunks_len], ⟨by omega, by omega⟩, by omega, ⟨by omega, by omega⟩, by omega, ⟨fun _ => ⟨by omega, fun c => (by cases c), fun _ => ⟨rfl, leaf⟩⟩, fun c => ?_⟩, ⟨rfl, rfl, rfl, fun _ => ⟨by omega, fun c => (by cases c), fun _ => ⟨rfl, leaf⟩⟩, fun c => ?_⟩⟩, fun c => (by cases c)⟩
      · have := both1 _ c; cases this
      · have := both1 _ c; cases this

set_option maxRecDepth 100000 in
theorem lose35 (B : BSt) (h : B.Ok) (seq at' : Int) :
    CallsA Try.prog 35 [.e (.s (.ptr 0 0)), .d (.int .u64 seq), .d (.int .i64 at')] (bhp B) fun r H' => r = enR B seq at' ∧ H' = bhp4 (loB B seq at') := by
  refine CallsA.re (calls_of fine e35ok 5 35 _ _ ?_)
  have hlen := h.acc.len
  show (t35 B.L B.ms.length (fun j => B.ms.getD j Mi.zero) B.now B.id B.tmo seq at').sat _ _
  have key : ∀ (e : Int) (y : SV), enE B seq at' = e → e ≠ 0 → (y = .c (.int .i64 e) ∨ y = .d (.int .i64 e)) → Re 4 [.tup [.agg [.c (.int .u64 0), .c (.int .i64 0), .c (.int .i64 0), .c (.int .i64 0)], .s y]] (bH B.L B.ms.length (miF fun j => B.ms.getD j Mi.zero) B.now B.id B.tmo) fun fr H2 => ∃ r2, fr = [r2] ∧ r2 = enR B seq at' ∧ H2 = bhp4 (loB B seq at') := by
    intro e y he h0 hy
    refine Re.ren [some 0, some 1, some 2, none, some 3] (fr2 := [.tup [.agg [.c (.int .u64 0), .c (.int .i64 0), .c (.int .i64 0), .c (.int .i64 0)], .s y]]) (by rcases hy with rfl | rfl <;> rfl) rfl rfl (.toD (.refl ⟨_, rfl, ?_, ?_⟩))
    · rcases hy with rfl | rfl <;> simp [enR, enP, he, h0, AV.toD, EV.toD, SV.toD, Pkt.zero, Pkt.cells]
    · have : loB B seq at' = B := by rw [loB, he, if_neg h0]
      rw [this]; rfl
  rw [t35_eq]
  by_cases he : earlyB B at'
  · have e10 := key 10 _ (by rw [enE, if_pos he]) (by decide) (.inl rfl)
    unfold earlyB at he
    refine ⟨fun _ => e10, fun c => ⟨fun _ => e10, fun c2 => ?_⟩⟩
    simp only [decide_eq_false_iff_not] at c c2
    omega
  · have hne := not_early he
    have hE : enE B seq at' = takeE B.L seq := by rw [enE, if_neg he]
    refine ⟨fun c => ?_, fun _ => ⟨fun c => ?_, fun _ => ⟨fun c => ?_, fun c => ?_⟩⟩⟩
    · simp only [decide_eq_true_eq] at c; omega
    · simp only [decide_eq_true_eq] at c; omega
    · have h0 : takeE B.L seq ≠ 0 := by simpa using c
      have hL : takeL B.L seq = B.L := by rw [takeL, if_neg h0]
      show Re 4 _ [_, .cells 86 (lc (takeL B.L seq) 2), .pm (takeL B.L seq).es, _] _
      rw [hL]
      exact key _ _ hE h0 (.inr rfl)
    · have h0 : takeE B.L seq = 0 := by simpa using c
      have hE0 : enE B seq at' = 0 := by rw [hE, h0]
      obtain ⟨_, _, hh⟩ := enE_zero hE0
      have hP : takeP B.L seq = findP B.L.es seq := by rw [takeP, if_pos h0]
      have hmem := (take_split seq 0 hh).2.2
      have hA := ((h.acc.later hne.1 hne.2).split hh).lose.1
      rw [hP]
      generalize hp : findP B.L.es seq = p at *
      obtain ⟨j, hj, w1, w2, w3⟩ := idx_end h hmem
      rw [w1]
      rw [w2] at hA
      clear key c
      have hjj : 0 + (j : Int).toNat = j := by omega
      rw [hjj]
      have leaf : Re 4 [.tup [.agg p.cells, .s (.c (.int .i64 0))]] [.cells 95 [.ptr 1 0, .d (.int .i64 at'), .sl 3 15 0 B.ms.length 0, .d (.int .i64 B.id), .d (.int .i64 B.tmo)], .cells 86 (lc (takeL B.L seq) 2), .pm (takeL B.L seq).es, .row 80 15 B.ms.length (spliceG (miG B.ms) j 0 (loseM (B.ms.getD j Mi.zero) p.size).vals)] fun fr H2 => ∃ r2, fr = [r2] ∧ r2 = enR B seq at' ∧ H2 = bhp4 (loB B seq at') := by
        have hid : (loseM (B.ms.getD j Mi.zero) p.size).id = (B.ms.getD j Mi.zero).id := rfl
        have hset := putM_set h.acc.ids hj hid
        refine Re.row 3 (miG (putM B.ms (loseM (B.ms.getD j Mi.zero) p.size))) rfl (fun i hi => by rw [hset, splice_mi hj _ i hi]) (.toD (Re.ren [some 0, some 1, some 2, none, some 3] rfl rfl rfl (.refl ⟨_, rfl, ?_, ?_⟩)))
        · simp [enR, enP, hE0, AV.toD, EV.toD, SV.toD, hp, Pkt.cells]
        · have : loB B seq at' = ⟨takeL B.L seq, at', putM B.ms (loseM (B.ms.getD j Mi.zero) p.size), B.id, B.tmo⟩ := by rw [loB, if_pos hE0, hp, w2]
          rw [this]
          simp [bhp4, putM_len, AB.toD, SV.toD, lc]
      have both1 : ∀ c : Bool, (loseE (B.ms.getD j Mi.zero) p.size == 0) = c → c = true := by
        intro c hc; rw [hA] at hc; exact hc.symm
      refine ⟨rfl, rfl, fun _ => ⟨⟨by omega, by omega⟩, by simp [chunks_len], ⟨by omega, by omega⟩, by omega, ⟨by omega, by omega⟩, by omega, ⟨fun _ => ⟨by omega, fun c => (by cases c), fun _ => ⟨rfl, leaf⟩⟩, fun c => ?_⟩, ⟨rfl, rfl, rfl, fun _ => ⟨by omega, fun c => (by cases c), fun _ => ⟨rfl, leaf⟩⟩, fun c => ?_⟩⟩, fun c => (by cases c)⟩
      · have := both1 _ c; cases this
      · have := both1 _ c; cases this

set_option maxRecDepth 100000 in
theorem take37 (B : BSt) (h : B.Ok) :
    CallsA Try.prog 37 [.e (.s (.ptr 0 0))] (bhp B) fun r H' => r = tkR B ∧ H' = bhp4 (tkB B) := by
  refine CallsA.re (calls_of fine e37ok 2 37 _ _ ?_)
  have hlen := h.acc.len
  show (t37 B.L B.ms.length (fun j => B.ms.getD j Mi.zero) B.now B.id B.tmo).sat _ _
  have key : ¬ tkP B → Re 4 [.tup [.agg [.c (.int .i64 0), .c (.int .i64 0), .c (.int .i64 0), .c (.int .i64 0), .c (.int .i64 0), .c (.int .i64 0), .c (.int .i64 0), .c (.int .i64 0), .c (.int .i64 0), .c (.int .i64 0), .c (.int .i64 0), .c (.int .i64 0), .c (.int .i64 0), .c (.int .i64 0), .c (.int .i64 0)], .s (.c (.bool false))]] (bH B.L B.ms.length (miF fun j => B.ms.getD j Mi.zero) B.now B.id B.tmo) fun fr H2 => ∃ r2, fr = [r2] ∧ r2 = tkR B ∧ H2 = bhp4 (tkB B) := by
    intro hn
    refine .toD (Re.ren [some 0, some 1, some 2, none, some 3] rfl rfl rfl (.refl ⟨_, rfl, ?_, ?_⟩))
    · simp [tkR, tkM, hn, AV.toD, EV.toD, SV.toD, Mi.zero, Mi.cells]
    · have : tkB B = B := by rw [tkB, if_neg hn]
      rw [this]; rfl
  rw [t37_eq]
  refine ⟨fun c => ?_, fun c => ?_⟩
  · have : B.ms.length = 0 := by have := beq_iff_eq.1 c; omega
    exact key fun hk => by have := hk.1; omega
  · have : B.ms.length ≠ 0 := by have := beq_eq_false_iff_ne.1 c; omega
    refine ⟨⟨by omega, by omega⟩, by omega, trivial, fun hd => ?_, fun hd => ?_⟩
    · have hd : (B.ms.getD 0 Mi.zero).DoneP := by simpa using hd
      have hk : tkP B := ⟨by omega, hd⟩
      have h1 : (B.ms.length : Int).toNat - Int.toNat 1 = B.ms.length - 1 := by rw [Int.toNat_natCast]; rfl
      rw [h1]
      refine ⟨⟨by omega, by omega⟩, by omega, ⟨by omega, by omega, by omega⟩, ⟨by omega, by unfold most; omega⟩, ?_⟩
      refine Re.row 6 (miG B.ms.tail) rfl (fun j _ => by show miG B.ms (1 + j) = _; rw [miG_get, miG_get, tail_get, Nat.add_comm]) (.toD (Re.ren [some 0, some 1, some 2, none, some 6] rfl rfl rfl (.refl ⟨_, rfl, ?_, ?_⟩)))
      · simp [tkR, tkM, hk, AV.toD, EV.toD, SV.toD, Mi.cells]
      · have : tkB B = ⟨B.L, B.now, B.ms.tail, B.id, B.tmo⟩ := by rw [tkB, if_pos hk]
        rw [this]
        simp [bhp4, AB.toD, SV.toD, lc]
    · have hd : ¬ (B.ms.getD 0 Mi.zero).DoneP := by simpa using hd
      exact key fun hk => hd hk.2

end Go.Proofs.Ythckkoledhjmeaa.Ev
