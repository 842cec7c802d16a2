/-
  The statement BooksCloses: a round of its script.
-/
import Derived.Test.YthckkoledhjmeaaCL
import Derived.Test.YthckkoledhjmeaaCK
import Derived.Test.YthckkoledhjmeaaCI
namespace Go.Proofs.Ythckkoledhjmeaa.Ev
open Go

theorem e9ok : EntsOk Try.prog e9 := ⟨k9, k24, s25ok, s23ok, s32ok, s33ok, s34ok, s35ok, s36ok, s37ok, s28ok, k31, k21, s38ok, trivial⟩

/-- What a step does that is done in law 9's script. -/
def goesB (B : BSt) (a b c d : Int) : BSt :=
  if a = 0 then begB B c else if a = 1 then sbB B b c else if a = 2 then akB B d c else if a = 3 then loB B d c else B
def goesE (B : BSt) (a b c d : Int) : Int :=
  if a = 0 then begE B c else if a = 1 then sbE B b c else if a = 2 then enE B d c else if a = 3 then enE B d c else 1

theorem BSt.Ok.goes {B : BSt} (h : B.Ok) (a b c d : Int) : (goesB B a b c d).Ok := by
  unfold goesB
  split
  · exact h.begin _
  split
  · exact h.send _ _
  split
  · exact h.ack _ _
  split
  · exact h.lose _ _
  · exact h

theorem roomS (L : LSt) (a b c : Int) : (sendL L a b c).room = L.room := by unfold sendL; split <;> rfl
theorem roomT (L : LSt) (a : Int) : (takeL L a).room = L.room := by unfold takeL; split <;> rfl

theorem goes_keep (B : BSt) (a b c d : Int) : (goesB B a b c d).L.room = B.L.room ∧ (goesB B a b c d).tmo = B.tmo ∧ (goesB B a b c d).id ≤ B.id + 1 ∧ (goesE B a b c d = 0 → (goesB B a b c d).now = c) ∧ (goesE B a b c d ≠ 0 → (goesB B a b c d).now = B.now) := by
  unfold goesB goesE
  split
  · unfold begB; split
    · rename_i h; exact ⟨rfl, rfl, Int.le_refl _, fun _ => rfl, fun e => absurd h e⟩
    · rename_i h; exact ⟨rfl, rfl, by omega, fun e => absurd e h, fun _ => rfl⟩
  split
  · unfold sbB; split
    · rename_i h; exact ⟨roomS _ _ _ _, rfl, by show B.id ≤ _; omega, fun _ => rfl, fun e => absurd h e⟩
    · rename_i h; exact ⟨rfl, rfl, by omega, fun e => absurd e h, fun _ => rfl⟩
  split
  · unfold akB; split
    · rename_i h; exact ⟨roomT _ _, rfl, by show B.id ≤ _; omega, fun _ => rfl, fun e => absurd h e⟩
    · rename_i h; exact ⟨rfl, rfl, by omega, fun e => absurd e h, fun _ => rfl⟩
  split
  · unfold loB; split
    · rename_i h; exact ⟨roomT _ _, rfl, by show B.id ≤ _; omega, fun _ => rfl, fun e => absurd h e⟩
    · rename_i h; exact ⟨rfl, rfl, by omega, fun e => absurd e h, fun _ => rfl⟩
  · exact ⟨rfl, rfl, by omega, fun e => absurd e (by decide), fun _ => rfl⟩

theorem miF_G (ms : List Mi) : (miF fun j => ms.getD j Mi.zero) = miG ms := rfl

def Hb9 (ns : Nat) (f : Nat → Sq) (B : BSt) : Heap := H9 ns f B.L B.ms.length (miF fun j => B.ms.getD j Mi.zero) B.now B.id B.tmo

/-- A state behind a round. -/
def In9 (room : Int) (ns z : Nat) (f : Nat → Sq) (tmo : Int) (i0 : Nat) (xs : List AV) (H : Heap) : Prop :=
  (∃ (i : Nat) (B : BSt), B.Ok ∧ B.L.room = room ∧ B.tmo = tmo ∧ B.id ≤ i ∧ xs = x9 room tmo ns z B.now i ∧ H = Hb9 ns f B) ∧ ns - ctr 5 xs < ns - i0

theorem leaf9 {room : Int} {ns z : Nat} {f : Nat → Sq} {tmo : Int} {i : Nat} (hns : ns ≤ 150) (hlt : i < ns) (S : BSt) (hok : S.Ok) (k1 : S.L.room = room) (k2 : S.tmo = tmo) (k3 : S.id ≤ (i : Int) + 1) {now : Int} (hnow : now = S.now) :
    In9 room ns z f tmo i (x9 room tmo ns z now (IntKind.i64.wrap (i + 1))) (Hb9 ns f S) := by
  rw [wrap_succ (by omega), hnow]
  refine ⟨⟨i + 1, S, hok, k1, k2, by omega, rfl, rfl⟩, ?_⟩
  simp only [ctr, x9, List.getD_cons_succ, List.getD_cons_zero, asInt, Option.getD_some, Int.toNat_natCast]
  omega

set_option maxRecDepth 100000 in
set_option maxHeartbeats 4000000 in
theorem body9 (room : Int) (ns z : Nat) (f : Nat → Sq) (hns : ns ≤ 150) (B : BSt) (hB : B.Ok) (hr : B.L.room = room) (i : Nat) (hi : B.id ≤ i) (vs : Nat → Value) (Q : Exit → St → Prop) (hQ : ∀ (vs : Nat → Value), Q (.exit 0) ⟨fat [0, 2, 3, 9, 11, 12] vs (x9 room B.tmo ns z B.now i) 207 0, Hb9 ns f B⟩) :
    (t9b room ns z f B.L B.ms.length (fun j => B.ms.getD j Mi.zero) B.now B.id B.tmo i vs).sat Try.prog fun x => match x.1 with
      | .normal => Re 1 x.2.1 x.2.2 (In9 room ns z f B.tmo i)
      | e => ∀ vs, Q e ⟨fat [0, 2, 3, 9, 11, 12] vs x.2.1 207 0, x.2.2⟩ := by
  rw [t9b_eq, rowMi_miF]
  refine ⟨fun hlt => ?_, fun _ vs => hQ vs⟩
  have hlt : i < ns := by simpa using hlt
  have hid : fewIds B := by unfold fewIds; omega
  have eB : (⟨B.L, B.now, B.ms, B.id, B.tmo⟩ : BSt) = B := rfl
  rw [eB]
  refine ⟨by omega, by simpa using hlt, ?_⟩
  generalize hs : f (0 + (i : Int).toNat) = s
  have hok := hB.goes s.kind s.size s.att s.seq
  have hkeep := goes_keep B s.kind s.size s.att s.seq
  have N : ∀ C : Prop, C → (B.ms.length = B.ms.length ∧ MiRow B.ms.length (miF fun j => B.ms.getD j Mi.zero)) ∧ B.Ok ∧ C := fun C hC => ⟨⟨rfl, miRow_F _ _⟩, hB, hC⟩
  refine ⟨fun c0 => ?_, fun c0 => ⟨fun c1 => ?_, fun c1 => ⟨fun c2 => ?_, fun c2 => ⟨fun c3 => ?_, fun c3 => ?_⟩⟩⟩⟩
  all_goals
    (try simp only [beq_iff_eq, beq_eq_false_iff_ne, ne_eq] at c0)
    (try simp only [beq_iff_eq, beq_eq_false_iff_ne, ne_eq] at c1)
    (try simp only [beq_iff_eq, beq_eq_false_iff_ne, ne_eq] at c2)
    (try simp only [beq_iff_eq, beq_eq_false_iff_ne, ne_eq] at c3)
  · have eS : goesB B s.kind s.size s.att s.seq = begB B s.att := by rw [goesB, if_pos c0]
    have eE : goesE B s.kind s.size s.att s.seq = begE B s.att := by rw [goesE, if_pos c0]
    rw [eS] at hok
    rw [eS, eE] at hkeep
    generalize begB B s.att = S at *
    obtain ⟨q1, q2, q3, q4, q5⟩ := hkeep
    refine ⟨N _ hid, fun hE => ?_, fun hE => ?_⟩
    · refine Re.ren [some 0, some 1, some 2, some 3, some 6] rfl rfl rfl (.refl ?_)
      exact leaf9 (z := z) (f := f) (i := i) hns hlt S hok (q1.trans hr) q2 (by omega) (q4 (by simpa using hE)).symm
    · refine Re.ren [some 0, some 1, some 2, some 3, some 6] rfl rfl rfl (.refl ?_)
      exact leaf9 (z := z) (f := f) (i := i) hns hlt S hok (q1.trans hr) q2 (by omega) (q5 (by simpa using hE)).symm
  · have eS : goesB B s.kind s.size s.att s.seq = sbB B (s.size, s.att).1 (s.size, s.att).2 := by rw [goesB, if_neg c0, if_pos c1]
    have eE : goesE B s.kind s.size s.att s.seq = sbE B s.size s.att := by rw [goesE, if_neg c0, if_pos c1]
    rw [eS] at hok
    rw [eS, eE] at hkeep
    generalize sbB B (s.size, s.att).1 (s.size, s.att).2 = S at *
    obtain ⟨q1, q2, q3, q4, q5⟩ := hkeep
    refine ⟨N _ trivial, fun hE => ?_, fun hE => ?_⟩
    · refine Re.ren [some 0, some 1, some 2, some 3, some 6] rfl rfl rfl (.refl ?_)
      exact leaf9 (z := z) (f := f) (i := i) hns hlt S hok (q1.trans hr) q2 (by omega) (q4 (by simpa using hE)).symm
    · refine Re.ren [some 0, some 1, some 2, some 3, some 6] rfl rfl rfl (.refl ?_)
      exact leaf9 (z := z) (f := f) (i := i) hns hlt S hok (q1.trans hr) q2 (by omega) (q5 (by simpa using hE)).symm
  · have eS : goesB B s.kind s.size s.att s.seq = akB B (s.seq, s.att).1 (s.seq, s.att).2 := by rw [goesB, if_neg c0, if_neg c1, if_pos c2]
    have eE : goesE B s.kind s.size s.att s.seq = enE B s.seq s.att := by rw [goesE, if_neg c0, if_neg c1, if_pos c2]
    rw [eS] at hok
    rw [eS, eE] at hkeep
    generalize akB B (s.seq, s.att).1 (s.seq, s.att).2 = S at *
    obtain ⟨q1, q2, q3, q4, q5⟩ := hkeep
    refine ⟨N _ trivial, fun hE => ?_, fun hE => ?_⟩
    · refine Re.ren [some 0, some 1, some 2, some 3, some 6] rfl rfl rfl (.refl ?_)
      exact leaf9 (z := z) (f := f) (i := i) hns hlt S hok (q1.trans hr) q2 (by omega) (q4 (by simpa using hE)).symm
    · refine Re.ren [some 0, some 1, some 2, some 3, some 6] rfl rfl rfl (.refl ?_)
      exact leaf9 (z := z) (f := f) (i := i) hns hlt S hok (q1.trans hr) q2 (by omega) (q5 (by simpa using hE)).symm
  · have eS : goesB B s.kind s.size s.att s.seq = loB B (s.seq, s.att).1 (s.seq, s.att).2 := by rw [goesB, if_neg c0, if_neg c1, if_neg c2, if_pos c3]
    have eE : goesE B s.kind s.size s.att s.seq = enE B s.seq s.att := by rw [goesE, if_neg c0, if_neg c1, if_neg c2, if_pos c3]
    rw [eS] at hok
    rw [eS, eE] at hkeep
    generalize loB B (s.seq, s.att).1 (s.seq, s.att).2 = S at *
    obtain ⟨q1, q2, q3, q4, q5⟩ := hkeep
    refine ⟨N _ trivial, fun hE => ?_, fun hE => ?_⟩
    · refine Re.ren [some 0, some 1, some 2, some 3, some 6] rfl rfl rfl (.refl ?_)
      exact leaf9 (z := z) (f := f) (i := i) hns hlt S hok (q1.trans hr) q2 (by omega) (q4 (by simpa using hE)).symm
    · refine Re.ren [some 0, some 1, some 2, some 3, some 6] rfl rfl rfl (.refl ?_)
      exact leaf9 (z := z) (f := f) (i := i) hns hlt S hok (q1.trans hr) q2 (by omega) (q5 (by simpa using hE)).symm
  · refine Re.ren [some 0, some 1, some 2, some 3, some 4] rfl rfl rfl (.refl ?_)
    exact leaf9 (z := z) (f := f) (i := i) hns hlt B hB hr rfl (by omega) rfl

end Go.Proofs.Ythckkoledhjmeaa.Ev
