/-
  The statement BooksDoes, told of the abstract evaluator's data.
-/
import Derived.Test.YthckkoledhjmeaaCC
import Derived.Test.YthckkoledhjmeaaCD
import Derived.Test.YthckkoledhjmeaaCI
namespace Go.Proofs.Ythckkoledhjmeaa.Ev
open Go

theorem e8ok : EntsOk Try.prog e8 := ⟨k8, k24, s23ok, s29ok, s28ok, s27ok, k31, k21, s25ok, trivial⟩

theorem sendL_rm (L : LSt) (a b c : Int) : (sendL L a b c).room = L.room := by unfold sendL; split <;> rfl
theorem takeL_rm (L : LSt) (a : Int) : (takeL L a).room = L.room := by unfold takeL; split <;> rfl
theorem expL_rm (L : LSt) (a b : Int) : (expL L a b).room = L.room := rfl

theorem BSt.Ok.step {B : BSt} (h : B.Ok) (a b c d : Int) : (stepB B a b c d).Ok := by
  unfold stepB
  split
  · exact h.begin _
  split
  · exact h.send _ _
  split
  · exact h.ack _ _
  split
  · exact h.lose _ _
  split
  · exact h.expire _
  · exact h.take

theorem stepB_keep (B : BSt) (a b c d : Int) : (stepB B a b c d).L.room = B.L.room ∧ (stepB B a b c d).tmo = B.tmo ∧ (stepB B a b c d).id ≤ B.id + 1 := by
  unfold stepB
  split
  · unfold begB; split
    · exact ⟨rfl, rfl, Int.le_refl _⟩
    · exact ⟨rfl, rfl, by omega⟩
  split
  · unfold sbB; split
    · exact ⟨sendL_rm _ _ _ _, rfl, by show B.id ≤ _; omega⟩
    · exact ⟨rfl, rfl, by omega⟩
  split
  · unfold akB; split
    · exact ⟨takeL_rm _ _, rfl, by show B.id ≤ _; omega⟩
    · exact ⟨rfl, rfl, by omega⟩
  split
  · unfold loB; split
    · exact ⟨takeL_rm _ _, rfl, by show B.id ≤ _; omega⟩
    · exact ⟨rfl, rfl, by omega⟩
  split
  · unfold exB; split
    · exact ⟨rfl, rfl, by omega⟩
    · exact ⟨expL_rm _ _ _, rfl, by show B.id ≤ _; omega⟩
  · unfold tkB; split
    · exact ⟨rfl, rfl, by show B.id ≤ _; omega⟩
    · exact ⟨rfl, rfl, by omega⟩

def Hb8 (ns : Nat) (f : Nat → Sq) (B : BSt) : Heap := H8 ns f B.L B.ms.length (miF fun j => B.ms.getD j Mi.zero) B.now B.id B.tmo B.L.es.length (pkG B.L.es)
def Hc8 (ns : Nat) (f : Nat → Sq) (B : BSt) : Heap := H8c ns f B.L B.ms.length (miF fun j => B.ms.getD j Mi.zero) B.now B.id B.tmo B.L.es.length (pkG B.L.es)

theorem answers8 (ns : Nat) (f : Nat → Sq) (B : BSt) (h : B.Ok) (hid : fewIds B) (a b c d : Int) :
    CallsA Try.prog 30 [.e (.s (.ptr 1 0)), .e (.s (.ptr 5 0)), .e (.agg [.d (.int .i64 a), .d (.int .i64 b), .d (.int .i64 c), .d (.int .u64 d)])] (Hb8 ns f B) fun r H' => r = .c (.bool true) ∧ H' = Hc8 ns f (stepB B a b c d) := by
  refine CallsA.out (Q := fun r H' => r = .d (.bool true) ∧ H' = Hc8 ns f (stepB B a b c d)) (CallsA.lift (args0 := [.e (.s (.ptr 0 0)), .e (.s (.ptr 4 0)), .e (.agg [.d (.int .i64 a), .d (.int .i64 b), .d (.int .i64 c), .d (.int .u64 d)])]) (H0 := two B) [1, 2, 3, 4, 5, 6, 7, 8] rfl rfl rfl (answers30 B h hid a b c d) ?_ ?_) ?_
  · rintro r H' ⟨rfl, rfl⟩; rfl
  · rintro r H' ⟨rfl, rfl⟩; exact ⟨rfl, rfl⟩
  · rintro r H' ⟨rfl, rfl⟩
    exact ⟨.c (.bool true), fun _ => rfl, Nat.le_refl _, fun _ _ => ok_s.2 trivial, rfl, rfl⟩

set_option maxRecDepth 100000 in
set_option maxHeartbeats 4000000 in
theorem body8 (room : Int) (ns z : Nat) (f : Nat → Sq) (hns : ns ≤ 150) (B : BSt) (hB : B.Ok) (hr : B.L.room = room) (i : Nat) (hi : B.id ≤ i) (vs : Nat → Value) (Q : Exit → St → Prop) (hQ : ∀ (i : Nat) (vs : Nat → Value), Q (.exit 0) ⟨fat [0, 3, 9, 11, 13] vs (x8 room ns z i) 85 0, Hb8 ns f B⟩) :
    (t8b room ns z f B.L B.ms.length (fun j => B.ms.getD j Mi.zero) B.now B.id B.tmo B.L.es.length (pkG B.L.es) i vs).sat Try.prog fun x => match x.1 with
      | .normal => Re 1 x.2.1 x.2.2 fun xs2 H2 => (∃ (i : Nat) (B2 : BSt), B2.Ok ∧ B2.L.room = room ∧ B2.tmo = B.tmo ∧ B2.id ≤ i ∧ xs2 = x8 room ns z i ∧ H2 = Hb8 ns f B2) ∧ ns - ctr 4 xs2 < ns - i
      | e => ∀ vs, Q e ⟨fat [0, 3, 9, 11, 13] vs x.2.1 85 0, x.2.2⟩ := by
  subst hr
  rw [t8b_eq]
  generalize hk : (T.go [true, true, true] (t8b B.L.room ns z f B.L B.ms.length (fun j => B.ms.getD j Mi.zero) B.now B.id B.tmo B.L.es.length (pkG B.L.es) i vs)).kontC = k
  refine ⟨fun hlt => ?_, fun _ vs => hQ i vs⟩
  have hlt : i < ns := by simpa using hlt
  refine ⟨by omega, by simpa using hlt, ?_⟩
  have hid : fewIds B := by unfold fewIds; omega
  refine CallsA.mono (answers8 ns f B hB hid _ _ _ _) ?_
  rintro r H' ⟨rfl, rfl⟩
  have hok := hB.step (f (0 + (i : Int).toNat)).kind (f (0 + (i : Int).toNat)).size (f (0 + (i : Int).toNat)).att (f (0 + (i : Int).toNat)).seq
  have hkeep := stepB_keep B (f (0 + (i : Int).toNat)).kind (f (0 + (i : Int).toNat)).size (f (0 + (i : Int).toNat)).att (f (0 + (i : Int).toNat)).seq
  generalize hS : stepB B (f (0 + (i : Int).toNat)).kind (f (0 + (i : Int).toNat)).size (f (0 + (i : Int).toNat)).att (f (0 + (i : Int).toNat)).seq = S at *
  obtain ⟨k1, k2, k3⟩ := hkeep
  have hk2 : k (.c (.bool true)) (Hc8 ns f S) = t8c B.L.room ns z f B.L B.ms.length (fun j => B.ms.getD j Mi.zero) B.now B.id B.tmo B.L.es.length (pkG B.L.es) i vs S.L S.ms.length (fun j => S.ms.getD j Mi.zero) S.now S.id S.L.es.length (pkG S.L.es) := by
    rw [← hk]
    unfold t8c Hc8
    rw [k2]
  rw [hk2, t8c_eq]
  rw [rowMi_miF]
  have hSo : (⟨S.L, S.now, S.ms, S.id, B.tmo⟩ : BSt) = S := by rw [← k2]
  have hlen : S.ms.length ≤ most := by have := hok.acc.len; unfold most; omega
  have hsame : sameMi S.ms.length (fun x => decMi (miG S.ms x)) S.ms.length (fun x => decMi (miF (fun j => S.ms.getD j Mi.zero) x)) = true := sameMi_iff.2 ⟨rfl, fun _ _ => rfl⟩
  rw [hSo]
  refine ⟨⟨⟨rfl, miRow_F _ _⟩, hok, trivial⟩, rfl, ⟨⟨Nat.le_refl _, Nat.le_refl _, hlen⟩, miRow_G _ _, miRow_F _ _⟩, fun _ => ⟨rfl, rfl, fun hx => ?_, fun _ => ?_⟩, fun hx => ?_⟩
  · rw [k1] at hx
    simp at hx
  · refine Re.ren [some 0, some 1, some 2, some 3, some 12, some 5, some 6, some 10, some 11] rfl rfl rfl (.refl ?_)
    rw [wrap_succ (by omega)]
    refine ⟨⟨i + 1, S, hok, k1, k2, by omega, rfl, by rw [← k2]; rfl⟩, ?_⟩
    simp only [ctr, List.getD_cons_succ, List.getD_cons_zero, asInt, Option.getD_some, Int.toNat_natCast]
    omega
  · rw [hsame] at hx; cases hx

set_option maxRecDepth 100000 in
theorem does8 (room first tmo : Int) (ns z : Nat) (f : Nat → Sq) (h1 : 0 ≤ first) (h2 : first ≤ 18446744073709551615) :
    CallsA Try.prog 8 [.d (.int .i64 room), .d (.int .u64 first), .d (.int .i64 tmo), .e (.s (.sl 0 4 0 ns z))] [.ro 4 ns (sqF f)] fun r _ => r = .c (.bool true) := by
  refine calls_of fine e8ok 4 8 _ _ ?_
  show (t8 room first tmo ns z f).sat _ _
  rw [t8_eq]
  generalize hk : (T.go [true, false, false] (t8 room first tmo ns z f)).kont = k
  generalize hn : (T.go [true, true, true, false] (t8 room first tmo ns z f)).kont = kn
  have hk8 : ∀ (i : Nat) (B : BSt) (vs : Nat → Value), ∃ H', k (.exit 0) ⟨fat [0, 3, 9, 11, 13] vs (x8 room ns z i) 85 0, Hb8 ns f B⟩ = .ret (.c (.bool true), H') := by
    intro i B vs
    rw [← hk]
    exact ⟨_, t8k_eq room first tmo ns z f B.L B.ms.length (fun j => B.ms.getD j Mi.zero) B.now B.id B.tmo B.L.es.length (pkG B.L.es) i vs⟩
  have hn8 : ∀ (i : Int) (vs : Nat → Value), ∃ H', kn (.exit 0) ⟨fat [0, 3, 9, 11, 13] vs (x8n room ns z i) 85 0, [.ro 4 ns (sqF f)]⟩ = .ret (.c (.bool true), H') := by
    intro i vs
    rw [← hn]
    exact ⟨_, t8nk_eq room first tmo ns z f i vs⟩
  have no : ∀ {x : Int} {P : Prop}, (x != 0) = true → (x != 0) = false → P := fun a b => by rw [a] at b; cases b
  refine ⟨fun hns => ⟨fun hb => ⟨fun _ => ⟨fun hx => ?_, fun _ => ?_⟩, fun hb2 => no hb hb2⟩, fun hb => ⟨fun hb2 => no hb2 hb, fun _ => ?_⟩⟩, fun _ => rfl⟩
  · simp at hx
  · have hn1 : ∀ (xs : List AV) (H : Heap), (∃ i : Int, xs = x8n room ns z i ∧ H = [.ro 4 ns (sqF f)]) → 1 ≤ H.length := by
      rintro xs H ⟨i, _, rfl⟩; exact Nat.le_refl _
    refine code_loop fine e8ok 3 (live := [0, 3, 9, 11, 13]) (N := 85) kl8 (fun xs H => ∃ i : Int, xs = x8n room ns z i ∧ H = [.ro 4 ns (sqF f)]) (fun _ _ => 0) hn1 ?_ rfl ?_
    · intro xs H vs hI
      cases hI with | intro i hI =>
      rw [hI.1, hI.2]
      have e := t8nb_eq room ns z f i vs
      unfold t8nb at e
      rw [e]
      have fin : ∀ vs : Nat → Value, (kn (.exit 0) ⟨fat [0, 3, 9, 11, 13] vs (x8n room ns z i) 85 0, [.ro 4 ns (sqF f)]⟩).sat Try.prog fun x => x.1 = .c (.bool true) := by
        intro vs
        obtain ⟨H', e⟩ := hn8 i vs
        rw [e]
        rfl
      refine ⟨fun _ => ?_, fun _ => ?_⟩
      · intro vs; exact fin vs
      · intro vs; exact fin vs
    · exact .toDm [false, false, false, false, true] [] (.refl ⟨0, rfl, rfl⟩)
  · have hnb : nbE room tmo = 0 := by simpa using hb
    obtain ⟨r1, r2, r3, r4⟩ := nbE_zero hnb
    have hns : ns ≤ 150 := by simp only [decide_eq_true_eq] at hns; omega
    have hn1 : ∀ (xs : List AV) (H : Heap), (∃ (i : Nat) (B : BSt), B.Ok ∧ B.L.room = room ∧ B.tmo = tmo ∧ B.id ≤ i ∧ xs = x8 room ns z i ∧ H = Hb8 ns f B) → 1 ≤ H.length := by
      rintro xs H ⟨i, B, _, _, _, _, _, rfl⟩; show 1 ≤ 9; omega
    refine code_loop fine e8ok 3 (live := [0, 3, 9, 11, 13]) (N := 85) kl8 (fun xs H => ∃ (i : Nat) (B : BSt), B.Ok ∧ B.L.room = room ∧ B.tmo = tmo ∧ B.id ≤ i ∧ xs = x8 room ns z i ∧ H = Hb8 ns f B) (fun xs _ => ns - ctr 4 xs) hn1 ?_ rfl ?_
    · intro xs H vs hI
      cases hI with | intro i hI =>
      cases hI with | intro B hI =>
      have hB := hI.1
      have hroom := hI.2.1
      have htmo := hI.2.2.1
      have hid := hI.2.2.2.1
      have hxs := hI.2.2.2.2.1
      have hH := hI.2.2.2.2.2
      clear hI
      rw [hxs, hH]
      clear hxs hH
      have hb := body8 room ns z f hns B hB hroom i hid vs (fun e σ' => (k e σ').sat Try.prog fun x => x.1 = .c (.bool true)) (fun i vs => by
        obtain ⟨H', e⟩ := hk8 i B vs
        show (k _ _).sat _ _
        rw [e]
        rfl)
      unfold t8b at hb
      rw [← htmo]
      refine T.sat_mono ?_ hb
      have hμ : ns - ctr 4 (x8 room ns z (i : Nat)) = ns - i := rfl
      rintro ⟨e, xs2, H2⟩ hx
      cases e with
      | normal => rw [hμ]; exact hx
      | exit id => exact fun vs => hx vs
      | goto l => exact fun vs => hx vs
      | ret => exact fun vs => hx vs
      | panic ch => exact fun vs => hx vs
      | outgrown => exact fun vs => hx vs
    · exact .toDm [false, false, false, false, true] [] (.refl ⟨0, newB' room first tmo, okB_new r1 r2 h1 h2 r3 r4, rfl, rfl, Int.le_refl _, rfl, rfl⟩)

end Go.Proofs.Ythckkoledhjmeaa.Ev
