/-
  The statement LedgerTimes, told of the abstract evaluator's data.
-/
import Derived.Test.YthckkoledhjmeaaXQ
namespace Go.Proofs.Ythckkoledhjmeaa.Ev
open Go

theorem e6ok : EntsOk Try.prog e6 := ⟨k6, s10ok, s12ok, s17ok, s19ok, s22ok, trivial⟩

/-- Two places of a row that is sorted. -/
theorem sorted_get {es : List Pkt} (hs : es.Pairwise fun a b => a.seq < b.seq) {i : Nat} (h0 : 0 < i) (h : i < es.length) : (es.getD (i - 1) Pkt.zero).seq < (es.getD i Pkt.zero).seq := by
  have := List.pairwise_iff_getElem.1 hs (i - 1) i (by omega) h (by omega)
  rw [List.getD_eq_getElem?_getD, List.getD_eq_getElem?_getD, List.getElem?_eq_getElem h, List.getElem?_eq_getElem (show i - 1 < es.length by omega)]
  exact this

theorem getD_mem {es : List Pkt} {i : Nat} (h : i < es.length) : es.getD i Pkt.zero ∈ es := by
  rw [List.getD_eq_getElem?_getD, List.getElem?_eq_getElem h]; exact List.getElem_mem h

theorem wrap_pred {i : Nat} (h0 : 0 < i) (h : i < 9223372036854775808) : IntKind.i64.wrap ((i : Int) - 1) = ((i - 1 : Nat) : Int) := by rw [IntKind.wrap_i64]; omega

section
variable (ns : Nat) (f : Nat → Int) (att tmo : Int) (L : LSt) (na nl : Nat) (fa fl : Nat → Pkt) (Q0 : AV × Heap → Prop) (k : Exit → St → T (AV × Heap)) (σ : St)

set_option maxRecDepth 100000 in
theorem times_2 (es : List Pkt) (hat : 0 ≤ att ∧ att ≤ 1099511627776) (hs : es.Pairwise fun a b => a.seq < b.seq) (hlen : es.length ≤ most) (ho : ∀ p ∈ es, 0 ≤ p.sent ∧ p.sent ≤ 1099511627776 ∧ att - p.sent ≥ tmo)
    (hk : ∀ (i : Nat) (vs : Nat → Value), (k (.exit 2) ⟨fat [2, 3, 12, 13, 14, 15] vs (y6 att tmo na es.length nl i) 147 0, G6 ns f L na es.length nl fa (fun j => es.getD j Pkt.zero) fl⟩).sat Try.prog Q0)
    (h0 : Re 1 (slim [2, 3, 12, 13, 14, 15] σ.fr) σ.H fun xs H => xs = y6 att tmo na es.length nl 0 ∧ H = G6 ns f L na es.length nl fa (fun j => es.getD j Pkt.zero) fl) (hN : σ.fr.length = 147) :
    CodeA Try.prog 1 (.loop (loopAt Try.prog 6 1)) σ fun e σ' => (k e σ').sat Try.prog Q0 := by
  have hn : ∀ (xs : List AV) (H : Heap), (∃ i : Nat, xs = y6 att tmo na es.length nl i ∧ H = G6 ns f L na es.length nl fa (fun j => es.getD j Pkt.zero) fl) → 1 ≤ H.length := by
    rintro xs H ⟨i, _, rfl⟩; show 1 ≤ 6; omega
  unfold most at hlen
  refine code_loop fine e6ok 1 kl61 (fun xs H => ∃ i : Nat, xs = y6 att tmo na es.length nl i ∧ H = G6 ns f L na es.length nl fa (fun j => es.getD j Pkt.zero) fl) (fun xs _ => es.length - ctr 5 xs) hn ?_ hN (h0.mono fun xs H h => ⟨0, h⟩)
  intro xs H vs hI
  cases hI with | intro i hI =>
  rw [hI.1, hI.2]
  clear hI
  have e := t6c_eq ns f att tmo L na es.length nl fa (fun j => es.getD j Pkt.zero) fl i vs
  unfold t6c at e
  rw [e]
  refine ⟨fun hlt => ?_, fun _ => fun vs => hk i vs⟩
  have hlt : i < es.length := by simpa using hlt
  have hm := ho _ (getD_mem hlt)
  have hwi : IntKind.i64.wrap (att - (es.getD i Pkt.zero).sent) = att - (es.getD i Pkt.zero).sent := by rw [IntKind.wrap_i64]; omega
  have fin : Re 1 (y6 att tmo na es.length nl (IntKind.i64.wrap ((i : Int) + 1))) (G6 ns f L na es.length nl fa (fun j => es.getD j Pkt.zero) fl) fun xs2 H2 => (∃ i : Nat, xs2 = y6 att tmo na es.length nl i ∧ H2 = G6 ns f L na es.length nl fa (fun j => es.getD j Pkt.zero) fl) ∧ es.length - ctr 5 xs2 < es.length - ctr 5 (y6 att tmo na es.length nl i) := by
    rw [wrap_succ (by omega)]
    refine .refl ⟨⟨i + 1, rfl, rfl⟩, ?_⟩
    simp only [ctr, List.getD_cons_succ, List.getD_cons_zero, asInt, Option.getD_some, y6, Int.toNat_natCast]
    omega
  simp only [T.sat, Int.toNat_natCast, Nat.zero_add, hwi, decide_eq_true_eq, decide_eq_false_iff_not]
  refine ⟨by omega, hlt, fun h => by omega, fun _ => ⟨fun hpos => ?_, fun _ => fin⟩⟩
  have hpos : 0 < i := by omega
  have hlt2 := sorted_get hs hpos hlt
  rw [wrap_pred hpos (by omega)]
  simp only [Int.toNat_natCast]
  exact ⟨by omega, hlt, by omega, by omega, fun h => by omega, fun _ => fin⟩

set_option maxRecDepth 100000 in
theorem times_3 (ng : Nat) (fg : Nat → Pkt) (es : List Pkt) (hat : 0 ≤ att ∧ att ≤ 1099511627776) (hs : es.Pairwise fun a b => a.seq < b.seq) (hlen : es.length ≤ most) (ho : ∀ p ∈ es, 0 ≤ p.sent ∧ p.sent ≤ 1099511627776 ∧ ¬ att - p.sent ≥ tmo)
    (hk : ∀ (i : Nat) (vs : Nat → Value), (k (.exit 4) ⟨fat [2, 3, 12, 13, 14, 16] vs (y6 att tmo na ng es.length i) 147 0, G6 ns f L na ng es.length fa fg (fun j => es.getD j Pkt.zero)⟩).sat Try.prog Q0)
    (h0 : Re 1 (slim [2, 3, 12, 13, 14, 16] σ.fr) σ.H fun xs H => xs = y6 att tmo na ng es.length 0 ∧ H = G6 ns f L na ng es.length fa fg (fun j => es.getD j Pkt.zero)) (hN : σ.fr.length = 147) :
    CodeA Try.prog 1 (.loop (loopAt Try.prog 6 2)) σ fun e σ' => (k e σ').sat Try.prog Q0 := by
  have hn : ∀ (xs : List AV) (H : Heap), (∃ i : Nat, xs = y6 att tmo na ng es.length i ∧ H = G6 ns f L na ng es.length fa fg (fun j => es.getD j Pkt.zero)) → 1 ≤ H.length := by
    rintro xs H ⟨i, _, rfl⟩; show 1 ≤ 6; omega
  unfold most at hlen
  refine code_loop fine e6ok 1 kl62 (fun xs H => ∃ i : Nat, xs = y6 att tmo na ng es.length i ∧ H = G6 ns f L na ng es.length fa fg (fun j => es.getD j Pkt.zero)) (fun xs _ => es.length - ctr 5 xs) hn ?_ hN (h0.mono fun xs H h => ⟨0, h⟩)
  intro xs H vs hI
  cases hI with | intro i hI =>
  rw [hI.1, hI.2]
  clear hI
  have e := t6d_eq ns f att tmo L na ng es.length fa fg (fun j => es.getD j Pkt.zero) i vs
  unfold t6d at e
  rw [e]
  refine ⟨fun hlt => ?_, fun _ => fun vs => hk i vs⟩
  have hlt : i < es.length := by simpa using hlt
  have hm := ho _ (getD_mem hlt)
  have hwi : IntKind.i64.wrap (att - (es.getD i Pkt.zero).sent) = att - (es.getD i Pkt.zero).sent := by rw [IntKind.wrap_i64]; omega
  have fin : Re 1 (y6 att tmo na ng es.length (IntKind.i64.wrap ((i : Int) + 1))) (G6 ns f L na ng es.length fa fg (fun j => es.getD j Pkt.zero)) fun xs2 H2 => (∃ i : Nat, xs2 = y6 att tmo na ng es.length i ∧ H2 = G6 ns f L na ng es.length fa fg (fun j => es.getD j Pkt.zero)) ∧ es.length - ctr 5 xs2 < es.length - ctr 5 (y6 att tmo na ng es.length i) := by
    rw [wrap_succ (by omega)]
    refine .refl ⟨⟨i + 1, rfl, rfl⟩, ?_⟩
    simp only [ctr, List.getD_cons_succ, List.getD_cons_zero, asInt, Option.getD_some, y6, Int.toNat_natCast]
    omega
  simp only [T.sat, Int.toNat_natCast, Nat.zero_add, hwi, decide_eq_true_eq, decide_eq_false_iff_not]
  refine ⟨by omega, hlt, fun h => by omega, fun _ => ⟨fun hpos => ?_, fun _ => fin⟩⟩
  have hpos : 0 < i := by omega
  have hlt2 := sorted_get hs hpos hlt
  rw [wrap_pred hpos (by omega)]
  simp only [Int.toNat_natCast]
  exact ⟨by omega, hlt, by omega, by omega, fun h => by omega, fun _ => fin⟩

end

theorem exp_left (L : LSt) (att tmo : Int) : (expP L att tmo).length + (expL L att tmo).es.length = L.es.length := by
  unfold expP expL
  simp only
  induction L.es with
  | nil => rfl
  | cons p es ih =>
    simp only [List.filter_cons]
    cases overX att tmo p <;> simp <;> omega

set_option maxRecDepth 100000 in
theorem times_k3 (room : Int) (ns z : Nat) (f : Nat → Int) (att tmo : Int) (L : LSt) (i : Nat) (vs : Nat → Value) (hat : 0 ≤ att ∧ att ≤ 1099511627776) (hL : L.Ok)
    (i1 : Nat) (vs1 : Nat → Value) (t : T (AV × Heap)) (ht : t = t6l room ns z f att tmo L i vs (expL L att tmo) L.es.length (expP L att tmo).length (expL L att tmo).es.length (fun j => L.es.getD j Pkt.zero) (fun j => (expP L att tmo).getD j Pkt.zero) (fun j => (expL L att tmo).es.getD j Pkt.zero) i1 vs1) :
    t.sat Try.prog fun x => x.1 = .c (.bool true) := by
  have hlast := hL.last
  have hm := most_ok L hL
  have hX := okL_exp hL att tmo
  have heq := exp_left L att tmo
  unfold most at hm
  rw [ht, t6l_eq]
  clear ht
  generalize hk3 : (T.go [] (t6l room ns z f att tmo L i vs (expL L att tmo) L.es.length (expP L att tmo).length (expL L att tmo).es.length (fun j => L.es.getD j Pkt.zero) (fun j => (expP L att tmo).getD j Pkt.zero) (fun j => (expL L att tmo).es.getD j Pkt.zero) i1 vs1)).kont = k3
  refine times_3 ns f att tmo (expL L att tmo) L.es.length (fun j => L.es.getD j Pkt.zero) _ k3 _ (expP L att tmo).length (fun j => (expP L att tmo).getD j Pkt.zero) (expL L att tmo).es hat hX.sorted (by unfold most; omega) ?_ ?_ ?_ rfl
  · intro p hp
    have h1 := hX.sent p hp
    have h2 := (List.mem_filter.1 hp).2
    simp only [overX, Bool.not_eq_true', decide_eq_false_iff_not] at h2
    have h3 : (expL L att tmo).last = L.last := rfl
    omega
  · intro i2 vs2
    have e := t6m_eq room ns z f att tmo L i vs (expL L att tmo) L.es.length (expP L att tmo).length (expL L att tmo).es.length (fun j => L.es.getD j Pkt.zero) (fun j => (expP L att tmo).getD j Pkt.zero) (fun j => (expL L att tmo).es.getD j Pkt.zero) i1 vs1
      (expL L att tmo) L.es.length (expP L att tmo).length (expL L att tmo).es.length (fun j => L.es.getD j Pkt.zero) (fun j => (expP L att tmo).getD j Pkt.zero) (fun j => (expL L att tmo).es.getD j Pkt.zero) i2 vs2
    unfold t6m at e
    rw [hk3] at e
    rw [e]
    refine ⟨fun _ => rfl, fun h => ?_⟩
    rw [IntKind.wrap_i64, beq_eq_false_iff_ne] at h
    omega
  · exact .toDm [false, false, false, false, false, true] [] (.refl ⟨rfl, rfl⟩)

set_option maxRecDepth 100000 in
theorem times_k2 (room : Int) (ns z : Nat) (f : Nat → Int) (att tmo : Int) (L : LSt) (i : Nat) (vs : Nat → Value) (hat : 0 ≤ att ∧ att ≤ 1099511627776) (htm : 0 ≤ tmo ∧ tmo ≤ 1099511627776) (hL : L.Ok)
    (t : T (AV × Heap)) (ht : t = t6k room ns z f att tmo L i vs) : t.sat Try.prog fun x => x.1 = .c (.bool true) := by
  have hlast := hL.last
  have hm := most_ok L hL
  have heq := exp_left L att tmo
  unfold most at hm
  rw [ht, t6k_eq]
  clear ht
  refine ⟨hL, ⟨hL, by unfold I64; omega, by unfold I64; omega⟩, okL_exp hL att tmo, ?_⟩
  generalize hk2 : (T.go [true, true, true] (t6k room ns z f att tmo L i vs)).kont = k2
  refine times_2 ns f att tmo (expL L att tmo) L.es.length (expL L att tmo).es.length (fun j => L.es.getD j Pkt.zero) (fun j => (expL L att tmo).es.getD j Pkt.zero) _ k2 _ (expP L att tmo) hat (hL.sorted.sublist List.filter_sublist) (by unfold most; omega) ?_ ?_ ?_ rfl
  · intro p hp
    have h0 := List.mem_filter.1 hp
    have h1 := hL.sent p h0.1
    have h2 := h0.2
    simp only [overX, decide_eq_true_eq] at h2
    omega
  · intro i1 vs1
    refine times_k3 room ns z f att tmo L i vs hat hL i1 vs1 _ ?_
    rw [← hk2]
    rfl
  · exact .toDm [false, false, false, false, false, true] [] (.refl ⟨rfl, rfl⟩)

set_option maxRecDepth 100000 in
theorem times6 (room : Int) (ns z : Nat) (f : Nat → Int) (att tmo : Int) :
    CallsA Try.prog 6 [.d (.int .i64 room), .e (.s (.sl 0 1 0 ns z)), .d (.int .i64 att), .d (.int .i64 tmo)] [.ro 1 ns (inF f)] fun r _ => r = .c (.bool true) := by
  refine calls_of fine e6ok 2 6 _ _ ?_
  show (t6 room ns z f att tmo).sat _ _
  rw [t6_eq]
  generalize hk1 : (T.go [false, false, false, false, false, false] (t6 room ns z f att tmo)).kont = k1
  simp only [T.sat, decide_eq_true_eq, decide_eq_false_iff_not, implies_true, true_and]
  intro hr hns h1 h2 h3 h4
  have hroom := newB_false hr
  have hn : ∀ (xs : List AV) (H : Heap), (∃ (i : Nat) (L : LSt), L.Ok ∧ xs = x6 ns z att tmo i ∧ H = H6 ns f L) → 1 ≤ H.length := by
    rintro xs H ⟨i, L, _, _, rfl⟩; show 1 ≤ 3; omega
  refine code_loop fine e6ok 1 (live := [1, 2, 3, 9, 11]) (N := 147) kl60 (fun xs H => ∃ (i : Nat) (L : LSt), L.Ok ∧ xs = x6 ns z att tmo i ∧ H = H6 ns f L) (fun xs _ => ns - ctr 4 xs) hn ?_ rfl ?_
  · intro xs H vs hI
    cases hI with | intro i hI =>
    cases hI with | intro L hI =>
    have hL := hI.1
    rw [hI.2.1, hI.2.2]
    clear hI
    have e := t6b_eq ns z f att tmo L i vs
    unfold t6b at e
    rw [e]
    refine ⟨fun hlt => ?_, fun _ => fun vs => ?_⟩
    · have hlt : i < ns := by simpa using hlt
      refine ⟨by omega, by simpa using hlt, hL, ?_⟩
      simp only [Int.toNat_natCast, Nat.zero_add]
      refine .refl ⟨⟨i + 1, sendL L 0 1 (f i), okL_send hL _ _ _, ?_, rfl⟩, ?_⟩
      · rw [wrap_succ (by omega)]; rfl
      · simp only [ctr, List.getD_cons_succ, List.getD_cons_zero, asInt, Option.getD_some, x6]
        rw [wrap_succ (by omega)]
        omega
    · refine times_k2 room ns z f att tmo L i vs (by omega) (by omega) hL _ ?_
      rw [← hk1]
      rfl
  · exact .toDm [false, false, false, false, true] [] (.refl ⟨0, newL room 0, okL_new hroom.1 hroom.2 (by decide) (by decide), rfl, rfl⟩)

end Go.Proofs.Ythckkoledhjmeaa.Ev
