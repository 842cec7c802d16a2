/-
  A step is done, and tallied.
-/
import Derived.Test.YthckkoledhjmeaaCT
namespace Go.Proofs.Ythckkoledhjmeaa.Ev
open Go

/-- What a step of the tally asks. -/
structure Pre26 (Y : TSt) (B : BSt) : Prop where
  ok : B.Ok
  inv : TInv Y B
  all : Y.all.length < 900000
  fo : Y.fo.length < 900000

section
variable {Y : TSt} {B : BSt}

theorem Pre26.lastA (h : Pre26 Y B) (hn : 0 < Y.all.length) : 0 < B.ms.length ∧ Y.all.getD (Y.all.length - 1) Mi.zero = lastM B.ms := by
  have h1 := h.inv.r.num
  have h2 := h.inv.last (by omega)
  exact ⟨h2, (h.inv.lastE h2).1⟩

/-- An interval begins: what is tallied. -/
theorem Pre26.beg (h : Pre26 Y B) {at' : Int} (hE : begE B at' = 0) :
    CallsA Try.prog 45 [.e (.s (.ptr 0 0)), .d (.int .i64 (begN B at')), .d (.int .i64 at')] (tHp Y) fun r H' => r = .c (.bool true) ∧ H' = tH45 (begT Y B at') := by
  obtain ⟨h1, h2⟩ := begE_zero hE
  have h5 := not_early h1
  have htm := h.ok.acc.tm
  have hidn := h.ok.acc.idn
  have hN : begN B at' = B.id := by rw [begN, if_pos hE]
  have ho : openE B.id at' = 0 := by
    unfold openE
    rw [if_neg (by omega), if_neg (by unfold TimeP; omega)]
  rw [hN]
  have hc : 0 < Y.all.length → closeE (Y.all.getD (Y.all.length - 1) Mi.zero) at' = 0 := by
    intro hn
    obtain ⟨g1, g2⟩ := h.lastA hn
    rw [g2]
    obtain ⟨f1, f2, f3, f4⟩ := lastM_facts h.ok.acc g1
    exact closeE_zero f1 f3 (by omega) (by omega)
  refine (began45 Y h.all B.id at' h.inv.r.num.symm hc ho).mono ?_
  rintro r H' ⟨rfl, rfl⟩
  refine ⟨rfl, ?_⟩
  by_cases hn : 0 < Y.all.length
  · rw [(h.lastA hn).2]; rfl
  · have : Y.all = [] := List.eq_nil_of_length_eq_zero (by omega)
    unfold begT
    rw [this]
    rfl

/-- A packet is sent: what is tallied. -/
theorem Pre26.snd (h : Pre26 Y B) {size at' : Int} (hE : sbE B size at' = 0) :
    IntKind.u64.wrap (sbN B size at' - B.L.first) = Y.fo.length ∧
    CallsA Try.prog 46 [.e (.s (.ptr 0 0)), .d (.int .u64 Y.fo.length), .d (.int .i64 size), .d (.int .i64 at')] (tHp Y) fun r H' => r = .c (.bool true) ∧ H' = tH46 (sndT Y B size at') := by
  obtain ⟨h1, h2, h3, h4⟩ := sbE_zero hE
  obtain ⟨g1, g2, g3, g4⟩ := h.inv.lastE h2
  have hf := h.inv.fo
  have hk := h.fo
  refine ⟨?_, ?_⟩
  · rw [sbN, if_pos hE, IntKind.wrap_u64]
    omega
  · have := sent46 Y h.fo h.inv.tt h.inv.sz g4 (by have := h.all; omega) size at' (by rw [g1]; exact h3)
    rw [g1] at this
    exact this

theorem Pre26.ack (h : Pre26 Y B) {seq at' : Int} (hE : enE B seq at' = 0) :
    (enP B seq at').seq = seq ∧ ∃ j : Nat, IntKind.u64.wrap ((enP B seq at').seq - B.L.first) = j ∧
    CallsA Try.prog 47 [.e (.s (.ptr 0 0)), .d (.int .u64 j), .e (.agg (enP B seq at').cells), .d (.int .i64 at')] (tHp Y) fun r H' => r = .c (.bool true) ∧ H' = tHp (endT Y (enP B seq at') (ackM (ofM B.ms (enP B seq at').mi) (enP B seq at').size (enP B seq at').sent at')) := by
  obtain ⟨h1, h2, h3⟩ := enE_zero hE
  have h5 := not_early h1
  have htm := h.ok.acc.tm
  have hP : enP B seq at' = findP B.L.es seq := by rw [enP, if_pos hE]
  rw [hP]
  have hk := h.fo
  obtain ⟨j, j1, j2, j3, j4, j5⟩ := h.inv.num (by omega) (take_split seq 0 h3).2.2
  have hA := (h.ok.acc.later h5.1 h5.2).split h3
  obtain ⟨a1, a2, a3⟩ := h.inv.r.at hA
  refine ⟨findP_seq h3, j, j2, ?_⟩
  have := ended47 Y (by omega) j (findP B.L.es seq) at' j1 j3 j4 j5 ⟨a1, a2⟩ (by rw [a3]; exact hA.lose.1) (fun _ => by rw [a3]; exact hA.ack.1)
  rw [if_pos (by omega), a3] at this
  exact this

theorem Pre26.lose (h : Pre26 Y B) {seq at' : Int} (hE : enE B seq at' = 0) :
    (enP B seq at').seq = seq ∧ ∃ j : Nat, IntKind.u64.wrap ((enP B seq at').seq - B.L.first) = j ∧
    CallsA Try.prog 47 [.e (.s (.ptr 0 0)), .d (.int .u64 j), .e (.agg (enP B seq at').cells), .c (.int .i64 (-1))] (tHp Y) fun r H' => r = .c (.bool true) ∧ H' = tHp (endT Y (enP B seq at') (loseM (ofM B.ms (enP B seq at').mi) (enP B seq at').size)) := by
  obtain ⟨h1, h2, h3⟩ := enE_zero hE
  have hP : enP B seq at' = findP B.L.es seq := by rw [enP, if_pos hE]
  rw [hP]
  have hk := h.fo
  obtain ⟨j, j1, j2, j3, j4, j5⟩ := h.inv.num (by omega) (take_split seq 0 h3).2.2
  have hA := h.ok.acc.split h3
  obtain ⟨a1, a2, a3⟩ := h.inv.r.at hA
  refine ⟨findP_seq h3, j, j2, ?_⟩
  have := ended47 Y (by omega) j (findP B.L.es seq) (-1) j1 j3 j4 j5 ⟨a1, a2⟩ (by rw [a3]; exact hA.lose.1) (fun h => by omega)
  rw [if_neg (by omega), a3] at this
  exact CallsA.toD this

theorem Pre26.ackI (h : Pre26 Y B) {seq at' : Int} (hE : enE B seq at' = 0) : TInv (endT Y (enP B seq at') (ackM (ofM B.ms (enP B seq at').mi) (enP B seq at').size (enP B seq at').sent at')) (akB B seq at') := by
  obtain ⟨h1, h2, h3⟩ := enE_zero hE
  have hP : enP B seq at' = findP B.L.es seq := by rw [enP, if_pos hE]
  have hB : akB B seq at' = ⟨takeL B.L seq, at', putM B.ms (ackM (ofM B.ms (findP B.L.es seq).mi) (findP B.L.es seq).size (findP B.L.es seq).sent at'), B.id, B.tmo⟩ := by rw [akB, if_pos hE]
  rw [hP, hB]
  exact h.inv.ended h.ok hE (by rw [ackM_id]; exact ofM_id (h.ok.acc.split h3))

theorem Pre26.loseI (h : Pre26 Y B) {seq at' : Int} (hE : enE B seq at' = 0) : TInv (endT Y (enP B seq at') (loseM (ofM B.ms (enP B seq at').mi) (enP B seq at').size)) (loB B seq at') := by
  obtain ⟨h1, h2, h3⟩ := enE_zero hE
  have hP : enP B seq at' = findP B.L.es seq := by rw [enP, if_pos hE]
  have hB : loB B seq at' = ⟨takeL B.L seq, at', putM B.ms (loseM (ofM B.ms (findP B.L.es seq).mi) (findP B.L.es seq).size), B.id, B.tmo⟩ := by rw [loB, if_pos hE]
  rw [hP, hB]
  exact h.inv.ended h.ok hE (m := loseM (ofM B.ms (findP B.L.es seq).mi) (findP B.L.es seq).size) (ofM_id (h.ok.acc.split h3))

end

set_option maxRecDepth 100000 in
set_option maxHeartbeats 600000 in
theorem step26 (Y : TSt) (B : BSt) (h : Pre26 Y B) (hid : fewIds B) (kd size att seq : Int) :
    CallsA Try.prog 26 [.e (.s (.ptr 4 0)), .e (.s (.ptr 0 0)), .e (.agg [.d (.int .i64 kd), .d (.int .i64 size), .d (.int .i64 att), .d (.int .u64 seq)]), .d (.int .u64 B.L.first)] (Hb26 Y B)
      fun r H' => r = .c (.bool true) ∧ ∃ Y2, TInv Y2 (doB B kd size att seq) ∧ Y2.fo.length ≤ Y.fo.length + 1 ∧ H' = Hc26 Y2 (doB B kd size att seq) := by
  refine CallsA.re (calls_of fine e26ok 3 26 _ _ ?_)
  show (t26 B.L B.ms.length (fun j => B.ms.getD j Mi.zero) B.now B.id B.tmo Y.all.length (fun j => Y.all.getD j Mi.zero) Y.taken Y.fo.length (fun j => Y.fo.getD j 0) (fun j => Y.tt.getD j 0) (fun j => Y.sz.getD j 0) kd size att seq B.L.first).sat Try.prog
    fun x => Re 9 [x.1] x.2 (Out26 Y.fo.length (doB B kd size att seq))
  rw [t26_eq]
  generalize hkx : (T.go [true, true, false] (t26 B.L B.ms.length (fun j => B.ms.getD j Mi.zero) B.now B.id B.tmo Y.all.length (fun j => Y.all.getD j Mi.zero) Y.taken Y.fo.length (fun j => Y.fo.getD j 0) (fun j => Y.tt.getD j 0) (fun j => Y.sz.getD j 0) kd size att seq B.L.first)).kontC = kx
  generalize hky : (T.go [false, true, true, false] (t26 B.L B.ms.length (fun j => B.ms.getD j Mi.zero) B.now B.id B.tmo Y.all.length (fun j => Y.all.getD j Mi.zero) Y.taken Y.fo.length (fun j => Y.fo.getD j 0) (fun j => Y.tt.getD j 0) (fun j => Y.sz.getD j 0) kd size att seq B.L.first)).kontC = ky
  generalize hka : (T.go [false, false, true, true, false, true] (t26 B.L B.ms.length (fun j => B.ms.getD j Mi.zero) B.now B.id B.tmo Y.all.length (fun j => Y.all.getD j Mi.zero) Y.taken Y.fo.length (fun j => Y.fo.getD j 0) (fun j => Y.tt.getD j 0) (fun j => Y.sz.getD j 0) kd size att seq B.L.first)).kontC = ka
  generalize hkl : (T.go [false, false, false, true, true, false, true] (t26 B.L B.ms.length (fun j => B.ms.getD j Mi.zero) B.now B.id B.tmo Y.all.length (fun j => Y.all.getD j Mi.zero) Y.taken Y.fo.length (fun j => Y.fo.getD j 0) (fun j => Y.tt.getD j 0) (fun j => Y.sz.getD j 0) kd size att seq B.L.first)).kontC = kl
  generalize hke : (T.go [false, false, false, false, true, true] (t26 B.L B.ms.length (fun j => B.ms.getD j Mi.zero) B.now B.id B.tmo Y.all.length (fun j => Y.all.getD j Mi.zero) Y.taken Y.fo.length (fun j => Y.fo.getD j 0) (fun j => Y.tt.getD j 0) (fun j => Y.sz.getD j 0) kd size att seq B.L.first)).kont = ke
  rw [rowMi_miF]
  have eB : (⟨B.L, B.now, B.ms, B.id, B.tmo⟩ : BSt) = B := rfl
  rw [eB]
  have N : ∀ C : Prop, C → (B.ms.length = B.ms.length ∧ MiRow B.ms.length (miF fun j => B.ms.getD j Mi.zero)) ∧ B.Ok ∧ C := fun C hC => ⟨⟨rfl, miRow_F _ _⟩, h.ok, hC⟩
  have neg : ∀ {x : Int} {P : Prop}, x = 0 → (x != 0) = true → P := fun a b => by rw [a] at b; cases b
  refine ⟨fun c0 => ?_, fun c0 => ⟨fun c1 => ?_, fun c1 => ⟨fun c2 => ?_, fun c2 => ⟨fun c3 => ?_, fun c3 => ⟨fun c4 => ?_, fun c4 => ?_⟩⟩⟩⟩⟩
  all_goals
    (try simp only [beq_iff_eq, beq_eq_false_iff_ne, ne_eq] at c0)
    (try simp only [beq_iff_eq, beq_eq_false_iff_ne, ne_eq] at c1)
    (try simp only [beq_iff_eq, beq_eq_false_iff_ne, ne_eq] at c2)
    (try simp only [beq_iff_eq, beq_eq_false_iff_ne, ne_eq] at c3)
    (try simp only [beq_iff_eq, beq_eq_false_iff_ne, ne_eq] at c4)
  · -- an interval begins
    have eD : doB B kd size att seq = begB B att := by rw [doB, if_pos c0]
    rw [eD]
    refine ⟨N _ hid, fun hE => ?_, fun hE => ?_⟩
    · have hne : begE B att ≠ 0 := by simpa using hE
      have hS : begB B att = B := by rw [begB, if_neg hne]
      exact lf1 kd size att seq Y.fo.length Y (begB B att) (by rw [hS]; exact h.inv) (by omega) []
    · have hE : begE B att = 0 := by simpa using hE
      have fin : (kx (.c (.bool true)) (K45 kd size att seq (begB B att).L (begB B att).ms.length (miG (begB B att).ms) (begB B att).now (begB B att).id (begB B att).tmo (begT Y B att).all.length (miG (begT Y B att).all) Y.taken Y.fo.length (niG Y.fo) (niG Y.tt) (niG Y.sz))).sat Try.prog
          fun x => Re 9 [x.1] x.2 (Out26 Y.fo.length (begB B att)) := by
        rw [← hkx]
        show (t26x B.L B.ms.length (fun j => B.ms.getD j Mi.zero) B.now B.id B.tmo Y.all.length (fun j => Y.all.getD j Mi.zero) Y.taken Y.fo.length (fun j => Y.fo.getD j 0) (fun j => Y.tt.getD j 0) (fun j => Y.sz.getD j 0) kd size att seq B.L.first (begB B att).L (begB B att).ms.length (miG (begB B att).ms) (begB B att).now (begB B att).id (begB B att).tmo (begT Y B att).all.length (miG (begT Y B att).all) Y.taken Y.fo.length (niG Y.fo) (niG Y.tt) (niG Y.sz)).sat _ _
        rw [t26x_eq]
        exact lf45 kd size att seq Y.fo.length (begT Y B att) (begB B att) (h.inv.begin h.ok hE) (Nat.le_succ _)
      refine CallsA.lift (args0 := [.e (.s (.ptr 0 0)), .d (.int .i64 (begN B att)), .d (.int .i64 att)]) (H0 := tHp Y) [4, 5, 6, 7, 8] rfl rfl rfl (h.beg hE) ?_ ?_
      · rintro r H' ⟨rfl, rfl⟩; rfl
      · rintro r H' ⟨rfl, rfl⟩
        exact fin
  · -- a packet is sent
    have eD : doB B kd size att seq = sbB B (size, att).1 (size, att).2 := by rw [doB, if_neg c0, if_pos c1]
    rw [eD]
    refine ⟨N _ trivial, fun hE => ?_, fun hE => ?_⟩
    · have hne : sbE B size att ≠ 0 := by simpa using hE
      have hS : sbB B size att = B := by rw [sbB, if_neg hne]
      exact lf1 kd size att seq Y.fo.length Y (sbB B (size, att).1 (size, att).2) (by show TInv Y (sbB B size att); rw [hS]; exact h.inv) (by omega) []
    · have hE : sbE B size att = 0 := by simpa using hE
      obtain ⟨g1, g2⟩ := h.snd hE
      have hi := h.inv.send h.ok hE
      rw [g1]
      have fin : (ky (.c (.bool true)) (K46 kd size att seq (sbB B (size, att).1 (size, att).2).L (sbB B (size, att).1 (size, att).2).ms.length (miG (sbB B (size, att).1 (size, att).2).ms) (sbB B (size, att).1 (size, att).2).now (sbB B (size, att).1 (size, att).2).id (sbB B (size, att).1 (size, att).2).tmo
          (sndT Y B size att).all.length (miG (sndT Y B size att).all) Y.taken (sndT Y B size att).fo.length (niG (sndT Y B size att).fo) (niG (sndT Y B size att).tt) (niG (sndT Y B size att).sz))).sat Try.prog
          fun x => Re 9 [x.1] x.2 (Out26 Y.fo.length (sbB B (size, att).1 (size, att).2)) := by
        rw [← hky]
        show (t26y B.L B.ms.length (fun j => B.ms.getD j Mi.zero) B.now B.id B.tmo Y.all.length (fun j => Y.all.getD j Mi.zero) Y.taken Y.fo.length (fun j => Y.fo.getD j 0) (fun j => Y.tt.getD j 0) (fun j => Y.sz.getD j 0) kd size att seq B.L.first (sbB B (size, att).1 (size, att).2).L (sbB B (size, att).1 (size, att).2).ms.length (miG (sbB B (size, att).1 (size, att).2).ms) (sbB B (size, att).1 (size, att).2).now (sbB B (size, att).1 (size, att).2).id (sbB B (size, att).1 (size, att).2).tmo
          (sndT Y B size att).all.length (miG (sndT Y B size att).all) Y.taken (sndT Y B size att).fo.length (niG (sndT Y B size att).fo) (niG (sndT Y B size att).tt) (niG (sndT Y B size att).sz)).sat _ _
        rw [t26y_eq]
        exact lf46 kd size att seq Y.fo.length (sndT Y B size att) (sbB B (size, att).1 (size, att).2) hi (by simp [sndT])
      refine CallsA.lift (args0 := [.e (.s (.ptr 0 0)), .d (.int .u64 Y.fo.length), .d (.int .i64 size), .d (.int .i64 att)]) (H0 := tHp Y) [4, 5, 6, 7, 8] rfl rfl rfl g2 ?_ ?_
      · rintro r H' ⟨rfl, rfl⟩; rfl
      · rintro r H' ⟨rfl, rfl⟩
        exact fin
  · -- a packet is acked
    have eD : doB B kd size att seq = akB B (seq, att).1 (seq, att).2 := by rw [doB, if_neg c0, if_neg c1, if_pos c2]
    rw [eD]
    refine ⟨N _ trivial, fun hE => ?_, fun hE => ?_⟩
    · have hne : enE B seq att ≠ 0 := by simpa using hE
      have hS : akB B seq att = B := by rw [akB, if_neg hne]
      exact lf1 kd size att seq Y.fo.length Y (akB B (seq, att).1 (seq, att).2) (by show TInv Y (akB B seq att); rw [hS]; exact h.inv) (by omega) []
    · have hE : enE B seq att = 0 := by simpa using hE
      obtain ⟨g0, j, g1, g2⟩ := h.ack hE
      have hi := h.ackI hE
      rw [g1]
      refine ⟨fun _ => ?_, fun hx => ?_⟩
      · generalize hm : endT Y (enP B seq att) (ackM (ofM B.ms (enP B seq att).mi) (enP B seq att).size (enP B seq att).sent att) = Z at *
        have hz : Z.taken = Y.taken ∧ Z.fo = Y.fo ∧ Z.tt = Y.tt ∧ Z.sz = Y.sz := by rw [← hm]; exact ⟨rfl, rfl, rfl, rfl⟩
        have fin : (ka (.c (.bool true)) (K47 kd size att seq (enP B seq att) (akB B (seq, att).1 (seq, att).2).L (akB B (seq, att).1 (seq, att).2).ms.length (miG (akB B (seq, att).1 (seq, att).2).ms) (akB B (seq, att).1 (seq, att).2).now (akB B (seq, att).1 (seq, att).2).id (akB B (seq, att).1 (seq, att).2).tmo
            Z.all.length (miG Z.all) Z.taken Z.fo.length (niG Z.fo) (niG Z.tt) (niG Z.sz))).sat Try.prog
            fun x => Re 9 [x.1] x.2 (Out26 Y.fo.length (akB B (seq, att).1 (seq, att).2)) := by
          rw [← hka]
          show (t26a B.L B.ms.length (fun j => B.ms.getD j Mi.zero) B.now B.id B.tmo Y.all.length (fun j => Y.all.getD j Mi.zero) Y.taken Y.fo.length (fun j => Y.fo.getD j 0) (fun j => Y.tt.getD j 0) (fun j => Y.sz.getD j 0) kd size att seq B.L.first (akB B (seq, att).1 (seq, att).2).L (akB B (seq, att).1 (seq, att).2).ms.length (miG (akB B (seq, att).1 (seq, att).2).ms) (akB B (seq, att).1 (seq, att).2).now (akB B (seq, att).1 (seq, att).2).id (akB B (seq, att).1 (seq, att).2).tmo
            Z.all.length (miG Z.all) Z.taken Z.fo.length (niG Z.fo) (niG Z.tt) (niG Z.sz) (enP B seq att)).sat _ _
          rw [t26a_eq]
          exact lf47 kd size att seq Y.fo.length Z (akB B (seq, att).1 (seq, att).2) hi (by rw [hz.2.1]; omega) []
        refine CallsA.lift (args0 := [.e (.s (.ptr 0 0)), .d (.int .u64 j), .e (.agg (enP B seq att).cells), .d (.int .i64 att)]) (H0 := tHp Y) [4, 5, 6, 7, 8] rfl rfl rfl g2 ?_ ?_
        · rintro r H' ⟨rfl, rfl⟩; rfl
        · rintro r H' ⟨rfl, rfl⟩
          exact fin
      · rw [g0] at hx; simp at hx
  · -- a packet is lost
    have eD : doB B kd size att seq = loB B (seq, att).1 (seq, att).2 := by rw [doB, if_neg c0, if_neg c1, if_neg c2, if_pos c3]
    rw [eD]
    refine ⟨N _ trivial, fun hE => ?_, fun hE => ?_⟩
    · have hne : enE B seq att ≠ 0 := by simpa using hE
      have hS : loB B seq att = B := by rw [loB, if_neg hne]
      exact lf1 kd size att seq Y.fo.length Y (loB B (seq, att).1 (seq, att).2) (by show TInv Y (loB B seq att); rw [hS]; exact h.inv) (by omega) []
    · have hE : enE B seq att = 0 := by simpa using hE
      obtain ⟨g0, j, g1, g2⟩ := h.lose hE
      have hi := h.loseI hE
      rw [g1]
      refine ⟨fun _ => ?_, fun hx => ?_⟩
      · generalize hm : endT Y (enP B seq att) (loseM (ofM B.ms (enP B seq att).mi) (enP B seq att).size) = Z at *
        have hz : Z.taken = Y.taken ∧ Z.fo = Y.fo ∧ Z.tt = Y.tt ∧ Z.sz = Y.sz := by rw [← hm]; exact ⟨rfl, rfl, rfl, rfl⟩
        have fin : (kl (.c (.bool true)) (K47 kd size att seq (enP B seq att) (loB B (seq, att).1 (seq, att).2).L (loB B (seq, att).1 (seq, att).2).ms.length (miG (loB B (seq, att).1 (seq, att).2).ms) (loB B (seq, att).1 (seq, att).2).now (loB B (seq, att).1 (seq, att).2).id (loB B (seq, att).1 (seq, att).2).tmo
            Z.all.length (miG Z.all) Z.taken Z.fo.length (niG Z.fo) (niG Z.tt) (niG Z.sz))).sat Try.prog
            fun x => Re 9 [x.1] x.2 (Out26 Y.fo.length (loB B (seq, att).1 (seq, att).2)) := by
          rw [← hkl]
          show (t26l B.L B.ms.length (fun j => B.ms.getD j Mi.zero) B.now B.id B.tmo Y.all.length (fun j => Y.all.getD j Mi.zero) Y.taken Y.fo.length (fun j => Y.fo.getD j 0) (fun j => Y.tt.getD j 0) (fun j => Y.sz.getD j 0) kd size att seq B.L.first (loB B (seq, att).1 (seq, att).2).L (loB B (seq, att).1 (seq, att).2).ms.length (miG (loB B (seq, att).1 (seq, att).2).ms) (loB B (seq, att).1 (seq, att).2).now (loB B (seq, att).1 (seq, att).2).id (loB B (seq, att).1 (seq, att).2).tmo
            Z.all.length (miG Z.all) Z.taken Z.fo.length (niG Z.fo) (niG Z.tt) (niG Z.sz) (enP B seq att)).sat _ _
          rw [t26l_eq]
          exact lf47 kd size att seq Y.fo.length Z (loB B (seq, att).1 (seq, att).2) hi (by rw [hz.2.1]; omega) []
        refine CallsA.lift (args0 := [.e (.s (.ptr 0 0)), .d (.int .u64 j), .e (.agg (enP B seq att).cells), .c (.int .i64 (-1))]) (H0 := tHp Y) [4, 5, 6, 7, 8] rfl rfl rfl g2 ?_ ?_
        · rintro r H' ⟨rfl, rfl⟩; rfl
        · rintro r H' ⟨rfl, rfl⟩
          exact fin
      · rw [g0] at hx; simp at hx
  · -- what is over expires
    have eD : doB B kd size att seq = exB B att := by rw [doB, if_neg c0, if_neg c1, if_neg c2, if_neg c3, if_pos c4]
    rw [eD]
    have hX := exp_facts h.ok att
    have hroom := h.ok.led.room
    have hles := h.ok.led.len
    refine ⟨N _ trivial, ?_⟩
    generalize exB B att = S at *
    generalize exP B att = l at *
    cases hX with | intro now' hX =>
    have hlen : l.length ≤ 4096 := by have := hX.len; omega
    have hke2 : ∀ (all : List Mi) (j : Nat) (vs : Nat → Value), LpI Y B S l now' j all → j = l.length → (ke (.exit 1) ⟨fat [0, 3, 17, 19] vs (x26 B.L.first l.length j) 164 0, He26 Y S all l⟩).sat Try.prog fun x => Re 9 [x.1] x.2 (Out26 Y.fo.length S) := by
      intro all j vs hI hj
      rw [← hke]
      show (t26e B.L B.ms.length (fun j => B.ms.getD j Mi.zero) B.now B.id B.tmo Y.all.length (fun j => Y.all.getD j Mi.zero) Y.taken Y.fo.length (fun j => Y.fo.getD j 0) (fun j => Y.tt.getD j 0) (fun j => Y.sz.getD j 0) kd size att seq B.L.first S.L S.ms.length (miF fun j => S.ms.getD j Mi.zero) S.now S.id S.tmo
        all.length (miF fun j => all.getD j Mi.zero) Y.taken Y.fo.length (niF fun j => Y.fo.getD j 0) (niF fun j => Y.tt.getD j 0) (niF fun j => Y.sz.getD j 0) l.length (pkF fun j => l.getD j Pkt.zero) j vs).sat _ _
      rw [t26e_eq]
      subst hj
      exact lfE Y.fo.length ⟨all, Y.taken, Y.fo, Y.tt, Y.sz⟩ S (hI.done hX h.inv) (Nat.le_succ _)
    have hn1 : ∀ (xs : List AV) (H : Heap), In26 Y B S l now' B.L.first xs H → 9 ≤ H.length := by
      rintro xs H ⟨j, all, _, _, rfl⟩; show 9 ≤ 11; omega
    refine code_loop fine e26ok 2 (live := [0, 3, 17, 19]) (N := 164) kl26 (In26 Y B S l now' B.L.first) (fun xs _ => l.length - ctr 3 xs) hn1 ?_ rfl ?_
    · intro xs H vs hI
      cases hI with | intro j hI =>
      cases hI with | intro all hI =>
      have hL := hI.1
      have hxs := hI.2.1
      have hH := hI.2.2
      clear hI
      rw [hxs, hH]
      clear hxs hH
      have hb := body26 Y B S h.inv (by have := h.fo; omega) l hlen now' hX j all hL vs (fun e σ' => (ke e σ').sat Try.prog fun x => Re 9 [x.1] x.2 (Out26 Y.fo.length S)) (fun hj vs => hke2 all j vs hL hj)
      unfold t26b at hb
      refine T.sat_mono ?_ hb
      have hμ : l.length - ctr 3 (x26 B.L.first l.length (j : Nat)) = l.length - j := rfl
      rintro ⟨e, xs2, H2⟩ hx
      cases e with
      | normal => rw [hμ]; exact hx
      | exit id => exact fun vs => hx vs
      | goto l => exact fun vs => hx vs
      | ret => exact fun vs => hx vs
      | panic ch => exact fun vs => hx vs
      | outgrown => exact fun vs => hx vs
    · exact .toDm [false, false, false, true] [] (Re.ren [some 0, some 1, some 2, none, some 4, some 5, some 6, some 7, some 8, some 10, some 11] rfl rfl rfl (.refl ⟨0, Y.all, LpI.zero hX h.inv, rfl, rfl⟩))
  · -- an interval is taken
    clear hkx hky hka hkl hke neg
    have eD : doB B kd size att seq = tkB B := by rw [doB, if_neg c0, if_neg c1, if_neg c2, if_neg c3, if_neg c4]
    rw [eD]
    have hl := h.inv.r.len
    have ht := h.inv.r.tk
    have hal := h.all
    refine ⟨⟨⟨rfl, miRow_F _ _⟩, h.ok⟩, fun hk => ?_, fun hk => ?_⟩
    · have hk : tkP B := by simpa using hk
      have hk0 := hk.1
      have e2 : tkB B = ⟨B.L, B.now, B.ms.tail, B.id, B.tmo⟩ := by rw [tkB, if_pos hk]
      rw [e2]
      have eq0 : B.ms.getD 0 Mi.zero = Y.all.getD (0 + (Y.taken : Int).toNat) Mi.zero := by
        have e3 : 0 + (Y.taken : Int).toNat = Y.taken + 0 := by omega
        rw [h.inv.r.get 0, e3]
      refine ⟨fun hx => ?_, fun _ => ⟨by omega, by omega, fun hx => ?_, fun _ => ?_⟩⟩
      · simp only [decide_eq_true_eq] at hx; omega
      · rw [← eq0] at hx
        simp at hx
      · rw [wrap_succ (by omega)]
        exact lf1 kd size att seq Y.fo.length ⟨Y.all, Y.taken + 1, Y.fo, Y.tt, Y.sz⟩ ⟨B.L, B.now, B.ms.tail, B.id, B.tmo⟩ (h.inv.take h.ok hk) (Nat.le_succ _) []
    · have hk : ¬ tkP B := by simpa using hk
      have e2 : tkB B = B := by rw [tkB, if_neg hk]
      rw [e2]
      exact lf1 kd size att seq Y.fo.length Y B h.inv (Nat.le_succ _) []

end Go.Proofs.Ythckkoledhjmeaa.Ev
