/-
  The statement LedgerDoes, told of the abstract evaluator's data.
-/
import Derived.Test.YthckkoledhjmeaaXI
namespace Go.Proofs.Ythckkoledhjmeaa.Ev
open Go

theorem e3ok : EntsOk Try.prog e3 := ⟨k3, s10ok, s11ok, s12ok, s13ok, s14ok, s15ok, s16ok, s17ok, s18ok, s19ok, k20, k21, s22ok, trivial⟩

theorem eta_L (L : LSt) : (⟨L.room, L.first, L.next, L.last, L.es⟩ : LSt) = L := rfl

theorem samePk_self (es : List Pkt) : samePk es.length (fun x => decPkt (pkG es x)) es.length (fun x => decPkt (pkG es x)) = true :=
  samePk_iff.2 ⟨rfl, fun _ _ => rfl⟩

theorem sendL_room (L : LSt) (a b c : Int) : (sendL L a b c).room = L.room := by unfold sendL; split <;> rfl
theorem takeL_room (L : LSt) (a : Int) : (takeL L a).room = L.room := by unfold takeL; split <;> rfl
theorem expL_room (L : LSt) (a b : Int) : (expL L a b).room = L.room := rfl

structure Stp.Ok (s : Stp) : Prop where
  att : I64 s.att
  size : I64 s.size

theorem len_ok (L : LSt) (h : L.Ok) : 0 + L.es.length ≤ L.es.length ∧ 0 + L.es.length ≤ L.es.length ∧ L.es.length ≤ most := ⟨by omega, by omega, most_ok L h⟩

set_option maxRecDepth 100000 in
set_option maxHeartbeats 4000000 in
theorem body3 (room : Int) (ns z : Nat) (f : Nat → Stp) (hf : ∀ j, j < ns → (f j).Ok) (hns : ns ≤ 150) (L : LSt) (hL : L.Ok) (hr : L.room = room) (i : Nat) (vs : Nat → Value) (Q : Exit → St → Prop) (hQ : ∀ (i : Nat) (L : LSt) (vs : Nat → Value), Q (.exit 0) ⟨fat [0, 2, 7, 9, 11] vs (x3 room ns z i) 162 0, H3 ns f L⟩) :
    (t3b room ns z f L i vs).sat Try.prog fun x => match x.1 with
      | .normal => Re 1 x.2.1 x.2.2 fun xs2 H2 => (∃ (i : Nat) (L : LSt), L.Ok ∧ L.room = room ∧ xs2 = x3 room ns z i ∧ H2 = H3 ns f L) ∧ ns - ctr 4 xs2 < ns - i
      | e => ∀ vs, Q e ⟨fat [0, 2, 7, 9, 11] vs x.2.1 162 0, x.2.2⟩ := by
  subst hr
  rw [t3b_eq]
  simp only [Nat.zero_add, T.sat, forall_const, false_implies, and_true, true_and, Bool.true_eq_false, Bool.false_eq_true, rowPk_pkG, eta_L, bne_self_eq_false, samePk_self, beq_self_eq_true, Bool.and_self, Bool.not_true, if_true, sendL_room, takeL_room, expL_room, Int.toNat_natCast, decide_eq_true_eq, decide_eq_false_iff_not]
  have row : ∀ L2 : LSt, L2.Ok → (L2.es.length ≤ L2.es.length ∧ L2.es.length ≤ L2.es.length ∧ L2.es.length ≤ most) ∧ PkRow L2.es.length (pkG L2.es) ∧ PkRow L2.es.length (pkG L2.es) :=
    fun L2 h => ⟨⟨Nat.le_refl _, Nat.le_refl _, most_ok L2 h⟩, pkRow_G _ _, pkRow_G _ _⟩
  have hexp : (expP L (f i).att (f i).size).length ≤ most := Nat.le_trans (List.length_filter_le _ _) (most_ok L hL)
  have fin : ∀ L2 : LSt, i < ns → L2.Ok → L2.room = L.room → (∃ (i' : Nat) (L_1 : LSt), L_1.Ok ∧ L_1.room = L.room ∧ x3 L.room ns z (IntKind.i64.wrap (i + 1)) = x3 L.room ns z i' ∧ H3 ns f L2 = H3 ns f L_1) ∧ ns - ctr 4 (x3 L.room ns z (IntKind.i64.wrap (i + 1))) < ns - i := by
    intro L2 hlt h1 h2
    rw [wrap_succ (by omega)]
    refine ⟨⟨i + 1, L2, h1, h2, rfl, rfl⟩, ?_⟩
    simp only [ctr, List.getD_cons_succ, List.getD_cons_zero, asInt, Option.getD_some, x3, Int.toNat_natCast]
    omega
  refine ⟨fun hlt => ?_, fun hge vs => hQ i L vs⟩
  have hlt : i < ns := by omega
  have hs := hf i hlt
  refine ⟨by omega, hlt, fun _ => ⟨hL, ⟨pkRow_G _ _, hL⟩, okL_send hL _ _ _, row _ (okL_send hL _ _ _), ?_⟩, fun _ => ⟨fun _ => ⟨⟨pkRow_G _ _, hL⟩, okL_take hL _, row _ (okL_take hL _), ?_⟩, fun _ => ⟨⟨hL, hs.att, hs.size⟩, ⟨pkRow_G _ _, hL, hs.att, hs.size⟩, ⟨⟨Nat.le_refl _, Nat.le_refl _, hexp⟩, pkRow_G _ _, pkRow_G _ _⟩, okL_exp hL _ _, row _ (okL_exp hL _ _), ?_⟩⟩⟩
  · refine Re.ren [some 0, some 1, some 2, some 3, some 6] rfl rfl rfl (.refl ?_)
    have := fin (sendL L (f i).mi (f i).size (f i).att) hlt (okL_send hL _ _ _) (sendL_room _ _ _ _)
    simpa only [H3, lc, rc, sendL_room, x3] using this
  · refine Re.ren [some 0, some 1, some 2, some 3, some 7] rfl rfl rfl (.refl ?_)
    have := fin (takeL L (f i).seq) hlt (okL_take hL _) (takeL_room _ _)
    simpa only [H3, lc, rc, takeL_room, x3] using this
  · refine Re.ren [some 0, some 1, some 2, some 3, some 7] rfl rfl rfl (.refl ?_)
    have := fin (expL L (f i).att (f i).size) hlt (okL_exp hL _ _) (expL_room _ _ _)
    simpa only [H3, lc, rc, expL_room, x3] using this

set_option maxRecDepth 100000 in
theorem does3 (room first : Int) (ns z : Nat) (f : Nat → Stp) (hf : ∀ j, j < ns → (f j).Ok) (h1 : 0 ≤ first) (h2 : first ≤ 18446744073709551615) :
    CallsA Try.prog 3 [.d (.int .i64 room), .d (.int .u64 first), .e (.s (.sl 0 5 0 ns z))] [.ro 5 ns (stF f)] fun r _ => r = .c (.bool true) := by
  refine calls_of fine e3ok 2 3 _ _ ?_
  show (t3 room first ns z f).sat _ _
  rw [t3_eq]
  generalize hk : (T.go [false, false, false] (t3 room first ns z f)).kont = k
  have hk3 : ∀ (i : Nat) (L : LSt) (vs : Nat → Value), k (.exit 0) ⟨fat [0, 2, 7, 9, 11] vs (x3 room ns z i) 162 0, H3 ns f L⟩ = .ret (.c (.bool true), [.ro 5 ns (stF f)]) := by
    intro i L vs
    rw [← hk]
    exact t3k_eq room first ns z f L i vs
  refine ⟨fun _ => rfl, fun hns => ⟨fun hb => ⟨fun _ => ?_, fun hb2 => ?_⟩, fun hb => ⟨fun hb2 => ?_, fun _ => ?_⟩⟩⟩
  · have hn : ∀ (xs : List AV) (H : Heap), (∃ i : Int, xs = x3n room ns z i ∧ H = [.ro 5 ns (stF f)]) → 1 ≤ H.length := by
      rintro xs H ⟨i, _, rfl⟩; exact Nat.le_refl _
    refine code_loop fine e3ok 1 (live := [0, 2, 7, 9, 11]) (N := 162) kl3 (fun xs H => ∃ i : Int, xs = x3n room ns z i ∧ H = [.ro 5 ns (stF f)]) (fun _ _ => 0) hn ?_ rfl ?_
    · intro xs H vs hI
      cases hI with | intro i hI =>
      rw [hI.1, hI.2]
      have e := t3nb_eq room ns z f i vs
      unfold t3nb at e
      rw [e]
      refine ⟨fun _ => ?_, fun _ => ?_⟩
      · intro vs
        show (t3nk room first ns z f i vs).sat _ _
        rw [t3nk_eq]
        rfl
      · intro vs
        show (t3nk room first ns z f i vs).sat _ _
        rw [t3nk_eq]
        rfl
    · exact .toDm [false, false, false, false, true] [] (.refl ⟨0, rfl, rfl⟩)
  · rw [hb] at hb2; cases hb2
  · rw [hb] at hb2; cases hb2
  · have hr := newB_false hb
    have hns : ns ≤ 150 := by simp only [decide_eq_false_iff_not] at hns; omega
    have hn : ∀ (xs : List AV) (H : Heap), (∃ (i : Nat) (L : LSt), L.Ok ∧ L.room = room ∧ xs = x3 room ns z i ∧ H = H3 ns f L) → 1 ≤ H.length := by
      rintro xs H ⟨i, L, _, _, _, rfl⟩; show 1 ≤ 5; omega
    refine code_loop fine e3ok 1 (live := [0, 2, 7, 9, 11]) (N := 162) kl3 (fun xs H => ∃ (i : Nat) (L : LSt), L.Ok ∧ L.room = room ∧ xs = x3 room ns z i ∧ H = H3 ns f L) (fun xs _ => ns - ctr 4 xs) hn ?_ rfl ?_
    · intro xs H vs hI
      cases hI with | intro i hI =>
      cases hI with | intro L hI =>
      have hL := hI.1
      have hroom := hI.2.1
      have hxs := hI.2.2.1
      have hH := hI.2.2.2
      clear hI
      rw [hxs, hH]
      have hb := body3 room ns z f hf hns L hL hroom i vs (fun e σ' => (k e σ').sat Try.prog fun x => x.1 = .c (.bool true)) (fun i L vs => by
        show (k _ _).sat _ _
        rw [hk3]
        rfl)
      unfold t3b at hb
      refine T.sat_mono ?_ hb
      have hμ : ns - ctr 4 (x3 room ns z (i : Nat)) = ns - i := rfl
      rintro ⟨e, xs2, H2⟩ hx
      cases e with
      | normal => rw [hμ]; exact hx
      | exit id => exact fun vs => hx vs
      | goto l => exact fun vs => hx vs
      | ret => exact fun vs => hx vs
      | panic ch => exact fun vs => hx vs
      | outgrown => exact fun vs => hx vs
    · exact .toDm [false, false, false, false, true] [] (.refl ⟨0, newL room first, okL_new hr.1 hr.2 h1 h2, rfl, rfl, rfl⟩)

end Go.Proofs.Ythckkoledhjmeaa.Ev
