/-
  The statement BooksCloses, told of the abstract evaluator's data.
-/
import Derived.Test.YthckkoledhjmeaaCP
namespace Go.Proofs.Ythckkoledhjmeaa.Ev
open Go

/-- A state where intervals are taken. -/
def In9c (room : Int) (ns : Nat) (f : Nat → Sq) (many : Nat) (xs : List AV) (H : Heap) : Prop :=
  ∃ (j : Nat) (B : BSt) (last : Int), B.Ok ∧ B.L.es = [] ∧ B.L.room = room ∧ 1 ≤ j ∧ B.ms.length + j = many + 1 ∧ (0 < many → 0 < B.ms.length) ∧ last < B.id - B.ms.length ∧ xs = x9c room many last j ∧ H = Hb9 ns f B

set_option maxRecDepth 100000 in
set_option maxHeartbeats 4000000 in
theorem body9c (room : Int) (ns : Nat) (f : Nat → Sq) (many : Nat) (hm : many ≤ 64) (B : BSt) (hB : B.Ok) (he : B.L.es = []) (hr : B.L.room = room) (j : Nat) (h1 : 1 ≤ j) (hl : B.ms.length + j = many + 1) (last : Int) (hlast : last < B.id - B.ms.length) (vs : Nat → Value)
    (Q : Exit → St → Prop) (hQ : ¬ (j : Int) < many → ∀ (vs : Nat → Value), Q (.exit 3) ⟨fat [0, 9, 25, 26, 27] vs (x9c room many last j) 207 0, Hb9 ns f B⟩) :
    (t9c room ns f B.L B.ms.length (fun j => B.ms.getD j Mi.zero) B.now B.id B.tmo many last j vs).sat Try.prog fun x => match x.1 with
      | .normal => Re 1 x.2.1 x.2.2 fun xs2 H2 => In9c room ns f many xs2 H2 ∧ many - ctr 4 xs2 < many - j
      | e => ∀ vs, Q e ⟨fat [0, 9, 25, 26, 27] vs x.2.1 207 0, x.2.2⟩ := by
  rw [t9c_eq, rowMi_miF]
  have eB : (⟨B.L, B.now, B.ms, B.id, B.tmo⟩ : BSt) = B := rfl
  rw [eB]
  refine ⟨fun hlt => ?_, fun hge => hQ (by simpa using hge)⟩
  have hlt : j < many := by simpa using hlt
  have hn : 2 ≤ B.ms.length := by omega
  have hf := first_done hB he hn
  have hk := first_tk hB he hn
  refine ⟨⟨⟨rfl, miRow_F _ _⟩, hB⟩, fun _ => ⟨fun hx => ?_, fun _ => ⟨trivial, fun _ => ⟨fun hx => ?_, fun _ => ⟨fun hx => ?_, fun _ => ?_⟩⟩, fun hx => ?_⟩⟩, fun hx => ?_⟩
  · have := hf.id
    simp only [decide_eq_true_eq] at hx
    omega
  · rw [hf.cnt] at hx
    simp at hx
  · rw [hf.sum] at hx
    simp at hx
  · have e2 : tkB B = ⟨B.L, B.now, B.ms.tail, B.id, B.tmo⟩ := by rw [tkB, if_pos hk]
    have hok := hB.take
    rw [e2] at hok
    have hid := hf.id
    refine Re.ren [some 0, some 1, some 2, some 3, some 5] rfl rfl rfl (.refl ?_)
    rw [wrap_succ (by omega)]
    refine ⟨⟨j + 1, ⟨B.L, B.now, B.ms.tail, B.id, B.tmo⟩, (B.ms.getD 0 Mi.zero).id, hok, he, hr, by omega, ?_, fun _ => ?_, ?_, rfl, rfl⟩, ?_⟩
    · simp only [List.length_tail]; omega
    · simp only [List.length_tail]; omega
    · simp only [List.length_tail]; omega
    · simp only [ctr, List.getD_cons_succ, List.getD_cons_zero, asInt, Option.getD_some, Int.toNat_natCast]
      omega
  · simp only [decide_eq_false_iff_not] at hx
    exact absurd hf.done hx
  · simp only [decide_eq_false_iff_not] at hx
    exact absurd hk hx

set_option maxRecDepth 100000 in
/-- Behind both loops. -/
theorem last9 (room first tmo : Int) (ns z : Nat) (f : Nat → Sq) (L : LSt) (n : Nat) (g : Nat → Mi) (now id : Int) (i : Int) (vs : Nat → Value) (B : BSt) (hB : B.Ok) (he : B.L.es = []) (hr : B.L.room = room) (many last j : Int) (h1 : B.ms.length ≤ 1) (h2 : many = 0 ∨ B.ms.length = 1) (vs2 : Nat → Value)
    (t : T (AV × Heap)) (ht : t = t9e room first tmo ns z f L n g now id i vs B.L B.ms.length (fun j => B.ms.getD j Mi.zero) B.now B.id B.tmo many last j vs2) : t.sat Try.prog fun x => x.1 = .c (.bool true) := by
  rw [ht, t9e_eq, rowMi_miF]
  have eB : (⟨B.L, B.now, B.ms, B.id, B.tmo⟩ : BSt) = B := rfl
  rw [rowMi_miG, eB]
  have hro := hB.led.room
  refine ⟨⟨⟨rfl, miRow_F _ _⟩, hB⟩, fun hx => ?_, fun _ => ⟨fun _ => ⟨fun _ => rfl, fun hx => ⟨⟨⟨rfl, miRow_G _ _⟩, hB, trivial⟩, fun _ => rfl, fun hx2 => ?_⟩⟩, fun hx => ?_⟩⟩
  · simp only [decide_eq_true_eq] at hx
    exact absurd hx (last_stays hB h1)
  · rcases h2 with h2 | h2
    · rw [h2] at hx; cases hx
    · rw [h2] at hx2; cases hx2
  · rw [he, hr] at hx
    have : IntKind.i64.wrap (room - (([] : List Pkt).length : Int)) = room := by
      show IntKind.i64.wrap (room - ((0 : Nat) : Int)) = room
      rw [wrap64 (by unfold I64; omega)]
      omega
    rw [this] at hx
    simp at hx

set_option maxRecDepth 100000 in
theorem tail9 (room first tmo : Int) (ns z : Nat) (f : Nat → Sq) (B : BSt) (hB : B.Ok) (hr : B.L.room = room) (ht : B.tmo = tmo) (i : Int) (vs : Nat → Value) (t : T (AV × Heap)) (ht2 : t = t9k room first tmo ns z f B.L B.ms.length (fun j => B.ms.getD j Mi.zero) B.now B.id i vs) : t.sat Try.prog fun x => x.1 = .c (.bool true) := by
  subst ht
  rw [ht2, t9k_eq]
  generalize hk : (T.go [true, false, true] (t9k room first B.tmo ns z f B.L B.ms.length (fun j => B.ms.getD j Mi.zero) B.now B.id i vs)).kont = k
  have hke : ∀ (S : BSt) (many last j : Int) (vs2 : Nat → Value), S.Ok → S.L.es = [] → S.L.room = room → S.ms.length ≤ 1 → (many = 0 ∨ S.ms.length = 1) → (k (.exit 3) ⟨fat [0, 9, 25, 26, 27] vs2 (x9c room many last j) 207 0, Hb9 ns f S⟩).sat Try.prog fun x => x.1 = .c (.bool true) := by
    intro S many last j vs2 a1 a2 a3 a4 a5
    have e : k (.exit 3) ⟨fat [0, 9, 25, 26, 27] vs2 (x9c room many last j) 207 0, Hb9 ns f S⟩ = t9e room first B.tmo ns z f B.L B.ms.length (fun j => B.ms.getD j Mi.zero) B.now B.id i vs S.L S.ms.length (fun j => S.ms.getD j Mi.zero) S.now S.id S.tmo many last j vs2 := by
      rw [← hk]; unfold t9e Hb9; rfl
    exact last9 room first B.tmo ns z f B.L B.ms.length (fun j => B.ms.getD j Mi.zero) B.now B.id i vs S a1 a2 a3 many last j a4 a5 vs2 _ e
  rw [rowMi_miF]
  have eB : (⟨B.L, B.now, B.ms, B.id, B.tmo⟩ : BSt) = B := rfl
  rw [eB]
  have htm := hB.acc.tm
  have htt := hB.tmo
  have hw : IntKind.i64.wrap (B.now + B.tmo) = B.now + B.tmo := wrap64 (by unfold I64; omega)
  rw [hw]
  refine ⟨⟨⟨rfl, miRow_F _ _⟩, hB, trivial⟩, fun hx => ⟨fun _ => rfl, fun hy => ?_⟩, fun hx => ?_⟩
  · simp only [decide_eq_false_iff_not] at hy
    have : exE B (B.now + B.tmo) = 0 := by
      unfold exE
      rw [if_neg (by unfold earlyB; omega)]
    rw [this] at hx
    simp at hx
  · have hne : ¬ earlyB B (B.now + B.tmo) := by
      intro h
      rw [exE, if_pos h] at hx
      simp at hx
    have hes := exp_all hB hne
    have hok := hB.expire (B.now + B.tmo)
    have hroom : (exB B (B.now + B.tmo)).L.room = room := by
      rw [← hr]
      unfold exB
      rw [if_neg hne]
      rfl
    generalize exB B (B.now + B.tmo) = S at *
    have hlen := hok.acc.len
    have hidn := hok.acc.idn
    rw [rowMi_miG]
    have eS : (⟨S.L, S.now, S.ms, S.id, S.tmo⟩ : BSt) = S := rfl
    rw [eS]
    refine ⟨⟨⟨rfl, miRow_G _ _⟩, hok, trivial⟩, ?_⟩
    have hn1 : ∀ (xs : List AV) (H : Heap), In9c room ns f S.ms.length xs H → 1 ≤ H.length := by
      rintro xs H ⟨j, B, last, _, _, _, _, _, _, _, _, rfl⟩; show 1 ≤ 5; omega
    refine code_loop fine e9ok 3 (live := [0, 9, 25, 26, 27]) (N := 207) kl9c (In9c room ns f S.ms.length) (fun xs _ => S.ms.length - ctr 4 xs) hn1 ?_ rfl ?_
    · intro xs H vs hI
      cases hI with | intro j hI =>
      cases hI with | intro C hI =>
      cases hI with | intro last hI =>
      have hC := hI.1
      have hCe := hI.2.1
      have hCr := hI.2.2.1
      have hj := hI.2.2.2.1
      have hl := hI.2.2.2.2.1
      have hp := hI.2.2.2.2.2.1
      have hlast := hI.2.2.2.2.2.2.1
      have hxs := hI.2.2.2.2.2.2.2.1
      have hH := hI.2.2.2.2.2.2.2.2
      clear hI
      rw [hxs, hH]
      clear hxs hH
      have hb := body9c room ns f S.ms.length hlen C hC hCe hCr j hj hl last hlast vs (fun e σ' => (k e σ').sat Try.prog fun x => x.1 = .c (.bool true)) (fun hge vs => hke C _ _ _ vs hC hCe hCr (by omega) (by
        by_cases h0 : 0 < S.ms.length
        · have := hp h0; right; omega
        · left; omega))
      unfold t9c at hb
      refine T.sat_mono ?_ hb
      have hμ : S.ms.length - ctr 4 (x9c room S.ms.length last (j : Nat)) = S.ms.length - j := rfl
      rintro ⟨e, xs2, H2⟩ hx
      cases e with
      | normal => rw [hμ]; exact hx
      | exit id => exact fun vs => hx vs
      | goto l => exact fun vs => hx vs
      | ret => exact fun vs => hx vs
      | panic ch => exact fun vs => hx vs
      | outgrown => exact fun vs => hx vs
    · refine .toDm [false, false, false, true, true] [] (Re.ren [some 0, some 1, some 2, some 3, some 7] rfl rfl rfl (.refl ?_))
      refine ⟨1, S, -1, hok, hes, hroom, Nat.le_refl _, rfl, fun h => h, by omega, rfl, rfl⟩

set_option maxRecDepth 100000 in
theorem closes9 (room first tmo : Int) (ns z : Nat) (f : Nat → Sq) (h1 : 0 ≤ first) (h2 : first ≤ 18446744073709551615) :
    CallsA Try.prog 9 [.d (.int .i64 room), .d (.int .u64 first), .d (.int .i64 tmo), .e (.s (.sl 0 4 0 ns z))] [.ro 4 ns (sqF f)] fun r _ => r = .c (.bool true) := by
  refine calls_of fine e9ok 4 9 _ _ ?_
  show (t9 room first tmo ns z f).sat _ _
  rw [t9_eq]
  generalize hk : (T.go [false, true] (t9 room first tmo ns z f)).kont = k
  refine ⟨fun _ => rfl, fun hb => ⟨fun hns => ?_, fun _ => rfl⟩⟩
  have hnb : nbE room tmo = 0 := by simpa using hb
  obtain ⟨r1, r2, r3, r4⟩ := nbE_zero hnb
  have hns : ns ≤ 150 := by simp only [decide_eq_true_eq] at hns; omega
  have hke : ∀ (i : Nat) (B : BSt) (vs : Nat → Value), B.Ok → B.L.room = room → B.tmo = tmo → (k (.exit 0) ⟨fat [0, 2, 3, 9, 11, 12] vs (x9 room tmo ns z B.now i) 207 0, Hb9 ns f B⟩).sat Try.prog fun x => x.1 = .c (.bool true) := by
    intro i B vs a1 a2 a3
    have e : k (.exit 0) ⟨fat [0, 2, 3, 9, 11, 12] vs (x9 room tmo ns z B.now i) 207 0, Hb9 ns f B⟩ = t9k room first tmo ns z f B.L B.ms.length (fun j => B.ms.getD j Mi.zero) B.now B.id i vs := by
      rw [← hk]; unfold t9k Hb9; rw [a3]
    exact tail9 room first tmo ns z f B a1 a2 a3 i vs _ e
  have hn1 : ∀ (xs : List AV) (H : Heap), (∃ (i : Nat) (B : BSt), B.Ok ∧ B.L.room = room ∧ B.tmo = tmo ∧ B.id ≤ i ∧ xs = x9 room tmo ns z B.now i ∧ H = Hb9 ns f B) → 1 ≤ H.length := by
    rintro xs H ⟨i, B, _, _, _, _, _, rfl⟩; show 1 ≤ 5; omega
  refine code_loop fine e9ok 3 (live := [0, 2, 3, 9, 11, 12]) (N := 207) kl9 (fun xs H => ∃ (i : Nat) (B : BSt), B.Ok ∧ B.L.room = room ∧ B.tmo = tmo ∧ B.id ≤ i ∧ xs = x9 room tmo ns z B.now i ∧ H = Hb9 ns f B) (fun xs _ => ns - ctr 5 xs) hn1 ?_ rfl ?_
  · intro xs H vs hI
    cases hI with | intro i hI =>
    cases hI with | intro B hI =>
    have hB := hI.1
    have hroom := hI.2.1
    have htmo := hI.2.2.1
    have hid := hI.2.2.2.1
    have hxs := hI.2.2.2.2.1
    have hH := hI.2.2.2.2.2
    clear hI
    rw [hxs, hH]
    clear hxs hH
    have hb := body9 room ns z f hns B hB hroom i hid vs (fun e σ' => (k e σ').sat Try.prog fun x => x.1 = .c (.bool true)) (fun vs => by
      have := hke i B vs hB hroom htmo
      rw [← htmo] at this
      exact this)
    unfold t9b at hb
    rw [← htmo]
    refine T.sat_mono ?_ hb
    have hμ : ns - ctr 5 (x9 room B.tmo ns z B.now (i : Nat)) = ns - i := rfl
    rintro ⟨e, xs2, H2⟩ hx
    cases e with
    | normal => rw [hμ]; exact hx
    | exit id => exact fun vs => hx vs
    | goto l => exact fun vs => hx vs
    | ret => exact fun vs => hx vs
    | panic ch => exact fun vs => hx vs
    | outgrown => exact fun vs => hx vs
  · exact .toDm [false, false, false, false, true, true] [] (.refl ⟨0, newB' room first tmo, okB_new r1 r2 h1 h2 r3 r4, rfl, rfl, Int.le_refl _, rfl, rfl⟩)

end Go.Proofs.Ythckkoledhjmeaa.Ev
