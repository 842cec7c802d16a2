/-
  The document's ledger: taking, and expiring.
-/
import Derived.Test.YthckkoledhjmeaaXD
namespace Go.Proofs.Ythckkoledhjmeaa.Ev
open Go

theorem e15ok : EntsOk Try.prog e15 := ⟨k15, trivial⟩
theorem e18ok : EntsOk Try.prog e18 := ⟨k18, s43ok, trivial⟩

theorem take_next {es : List Pkt} {i : Nat} (h : i < es.length) : es.take (i + 1) = es.take i ++ [es.getD i Pkt.zero] := by
  rw [List.take_add_one, List.getElem?_eq_getElem h, List.getD_eq_getElem?_getD, List.getElem?_eq_getElem h]
  rfl

theorem findP_new {es : List Pkt} (hs : es.Pairwise fun a b => a.seq < b.seq) {i : Nat} (h : i < es.length) : findP (es.take i ++ [es.getD i Pkt.zero]) (es.getD i Pkt.zero).seq = es.getD i Pkt.zero := by
  unfold findP
  rw [List.find?_append]
  have : (es.take i).find? (fun p => (es.getD i Pkt.zero).seq == p.seq) = none := by
    rw [List.find?_eq_none]
    intro p hp
    rw [List.getD_eq_getElem?_getD, List.getElem?_eq_getElem h]
    obtain ⟨j, hj, rfl⟩ := List.mem_iff_getElem.1 hp
    rw [List.length_take] at hj
    have := List.pairwise_iff_getElem.1 hs j i (by omega) h (by omega)
    simp only [List.getElem_take, Option.getD_some, beq_iff_eq]
    omega
  rw [this]
  simp

theorem findP_old {es : List Pkt} {s : Int} {q : Pkt} (h : (q.seq == s) = false) : findP (es ++ [q]) s = findP es s := by
  unfold findP
  rw [List.find?_append]
  have : (s == q.seq) = false := by simp only [beq_eq_false_iff_ne, ne_eq] at h ⊢; exact fun e => h e.symm
  cases es.find? (fun p => s == p.seq) <;> simp [this]

theorem hasP_app {es : List Pkt} {s : Int} {q : Pkt} : hasP (es ++ [q]) s = (hasP es s || (s == q.seq)) := by simp [hasP]

theorem x15_eq {seq : Int} {k : Nat} {b : Bool} {i : Int} {k' : Nat} {b' : Bool} {i' : Int} (h1 : k = k') (h2 : b = b') (h3 : i = i') : x15 seq k b i = x15 seq k' b' i' := by rw [h1, h2, h3]

theorem take15 (L : LSt) (h : L.Ok) (seq : Int) :
    CallsA Try.prog 15 [.e (.s (.ptr 0 0)), .d (.int .u64 seq)] (rhp L) fun r H' => r = takeR L seq ∧ H' = rhp2 (takeL L seq) := by
  refine CallsA.re (calls_of fine e15ok 2 15 _ _ ?_)
  have hlen := h.len
  have hroom := h.room
  generalize hf : (fun j => L.es.getD j Pkt.zero) = f
  have hfe : ∀ j, f j = L.es.getD j Pkt.zero := fun j => by rw [← hf]
  have hG : rhp L = [.cells 44 (rc L 1 L.es.length), .row 36 4 L.es.length (pkF f)] := by rw [← hf]; rfl
  rw [hG]
  show (t15 L L.es.length f seq).sat _ _
  rw [t15_eq]
  have key : ∀ e : Int, takeE L seq = e → e ≠ 0 → Re 2 [.tup [.agg [.c (.int .u64 0), .c (.int .i64 0), .c (.int .i64 0), .c (.int .i64 0)], .s (.c (.int .i64 e))]] [.cells 44 (rc L 1 L.es.length), .row 36 4 L.es.length (pkF f)] fun fr H2 => ∃ r2, fr = [r2] ∧ r2 = takeR L seq ∧ H2 = rhp2 (takeL L seq) := by
    intro e he h0
    refine .toD (Re.ren [some 0, none, some 1] rfl rfl rfl (.refl ⟨_, rfl, ?_, ?_⟩))
    · simp [takeR, takeP, he, h0, Pkt.zero, Pkt.cells]
    · have : takeL L seq = L := by simp [takeL, he, h0]
      rw [this, ← hf]; rfl
  refine ⟨fun h1 => key 3 ?_ (by decide), fun h1 => ⟨fun h2 => key 3 ?_ (by decide), fun h2 => ?_⟩⟩ <;>
    simp only [decide_eq_true_eq, decide_eq_false_iff_not] at *
  · simp [takeE, h1]
  · simp only [takeE, h1, if_false]; rw [if_pos h2]
  · refine code_loop fine e15ok 1 (live := [0, 1, 4, 5, 6, 7, 8, 9]) (N := 69) kl15
      (fun xs H => ∃ i : Nat, i ≤ L.es.length ∧ xs = x15 seq ((L.es.take i).filter fun p => !(p.seq == seq)).length (hasP (L.es.take i) seq) i ∧
        H = H15 L L.es.length f (findP (L.es.take i) seq) ((L.es.take i).filter fun p => !(p.seq == seq)).length (pkG ((L.es.take i).filter fun p => !(p.seq == seq))))
      (fun xs _ => L.es.length - ctr 7 xs) ?_ ?_ rfl ?_
    · rintro xs H ⟨i, _, _, rfl⟩; show 2 ≤ 5; omega
    · intro xs H vs hI
      cases hI with | intro i hI =>
      have hi := hI.1
      have hxs := hI.2.1
      have hH := hI.2.2
      clear hI
      rw [hxs, hH]
      generalize hk : (L.es.take i).filter (fun p => !(p.seq == seq)) = a
      have hka : a.length ≤ L.es.length := by rw [← hk]; exact Nat.le_trans (List.length_filter_le _ _) (by rw [List.length_take]; omega)
      have e := t15b_eq L L.es.length f seq (findP (L.es.take i) seq) a.length (pkG a) (hasP (L.es.take i) seq) i vs
      unfold t15b at e
      rw [e]
      refine ⟨fun hlt => ?_, fun hge => ?_⟩
      · have hlt : i < L.es.length := by simpa using hlt
        have hn := take_next hlt
        simp only [Int.toNat_natCast, Nat.zero_add, hfe]
        refine ⟨by omega, by omega, fun hm => ⟨by omega, by omega, ?_⟩, fun hm => ⟨by omega, by omega, ⟨by omega, by simp [chunks_len], by unfold most; omega⟩, ?_⟩⟩
        · have hm' : (L.es.getD i Pkt.zero).seq = seq := by simpa using hm
          refine .refl ⟨⟨i + 1, by omega, ?_, ?_⟩, ?_⟩
          · refine Eq.trans (b := x15 seq a.length true (IntKind.i64.wrap ((i : Int) + 1))) rfl (x15_eq ?_ ?_ ?_)
            · rw [hn, List.filter_append, hk]; simp [hm', -List.getD_eq_getElem?_getD]
            · rw [hn, hasP_app, hm']; simp
            · rw [wrap_succ (by omega)]
          · rw [hn, List.filter_append, hk, ← hm', findP_new h.sorted hlt]
            simp [H15, Pkt.cells, Pkt.zero, rc]
          · simp only [ctr, List.getD_cons_succ, List.getD_cons_zero, asInt, Option.getD_some, x15]
            rw [wrap_succ (by omega)]
            omega
        · refine Re.row 6 (pkG (a ++ [L.es.getD i Pkt.zero])) rfl (app_pk a _ _ rfl) (Re.ren [some 0, some 1, some 2, some 3, some 6] rfl rfl rfl (.refl ⟨⟨i + 1, by omega, ?_, ?_⟩, ?_⟩))
          · refine Eq.trans (b := x15 seq (a.length + 1) (hasP (L.es.take i) seq) (IntKind.i64.wrap ((i : Int) + 1))) rfl (x15_eq ?_ ?_ ?_)
            · rw [hn, List.filter_append, hk]; simp [hm, -List.getD_eq_getElem?_getD]
            · rw [hn, hasP_app]
              have : (seq == (L.es.getD i Pkt.zero).seq) = false := by simp only [beq_eq_false_iff_ne, ne_eq] at hm ⊢; exact fun e => hm e.symm
              rw [this]; simp
            · rw [wrap_succ (by omega)]
          · rw [hn, List.filter_append, hk, findP_old hm]
            have hm2 : ([L.es.getD i Pkt.zero].filter fun p => !(p.seq == seq)) = [L.es.getD i Pkt.zero] := by rw [List.filter_cons, hm]; rfl
            rw [hm2]
            simp [H15, Pkt.cells, Pkt.zero, rc]
          · simp only [ctr, List.getD_cons_succ, List.getD_cons_zero, asInt, Option.getD_some, x15]
            rw [wrap_succ (by omega)]
            omega
      · have hge : L.es.length ≤ i := by simpa using hge
        have hi' : i = L.es.length := by omega
        intro vs
        rw [hi', List.take_of_length_le (Nat.le_refl _)] at hk ⊢
        have hdel := delP_filter h.sorted seq
        rw [hk] at hdel
        cases hb : hasP L.es seq with
        | true =>
          show (t15kt L L.es.length f seq (findP L.es seq) a.length (pkG a) (L.es.length : Nat) vs).sat _ _
          rw [t15kt_eq]
          have hE : takeE L seq = 0 := by simp only [takeE, h1, hb, if_false, if_true]; rw [if_neg h2]
          refine .toD (Re.ren [some 0, none, some 4] rfl rfl rfl (.refl ⟨_, rfl, ?_, ?_⟩))
          · simp [takeR, takeP, hE, Pkt.cells]
          · have : takeL L seq = ⟨L.room, L.first, L.next, L.last, delP L.es seq⟩ := by simp [takeL, hE]
            rw [this, hdel]; rfl
        | false =>
          show (t15kf L L.es.length f seq (findP L.es seq) a.length (pkG a) (L.es.length : Nat) vs).sat _ _
          rw [t15kf_eq]
          exact key 4 (by simp only [takeE, h1, hb, if_false]; rw [if_neg h2]; rfl) (by decide)
    · refine .toDm [false, false, false, true, false, false, false, true] [false, false, true, true] (Re.nil 4 36 4 (pkG []) (by decide) rfl (.refl ⟨0, Nat.zero_le _, rfl, ?_⟩))
      simp [H15, findP, Pkt.cells, Pkt.zero, rc, toDHs, AB.toD, SV.toD]

theorem x18_eq {att tmo : Int} {k m : Nat} {i : Int} {k' m' : Nat} {i' : Int} (h1 : k = k') (h2 : m = m') (h3 : i = i') : x18 att tmo k m i = x18 att tmo k' m' i' := by rw [h1, h2, h3]

def xhp (L : LSt) (att tmo : Int) : Heap := rhp2 (expL L att tmo) ++ [.row 36 4 (expP L att tmo).length (pkG (expP L att tmo))]

theorem expire18 (L : LSt) (h : L.Ok) (att tmo : Int) (ha : I64 att) (ht : I64 tmo) :
    CallsA Try.prog 18 [.e (.s (.ptr 0 0)), .d (.int .i64 att), .d (.int .i64 tmo)] (rhp L) fun r H' => r = .e (.s (.sl 3 4 0 (expP L att tmo).length 0)) ∧ H' = xhp L att tmo := by
  refine CallsA.re (calls_of fine e18ok 2 18 _ _ ?_)
  have hlen := h.len
  have hroom := h.room
  have hlast := h.last
  generalize hf : (fun j => L.es.getD j Pkt.zero) = f
  have hfe : ∀ j, f j = L.es.getD j Pkt.zero := fun j => by rw [← hf]
  have hG : rhp L = [.cells 44 (rc L 1 L.es.length), .row 36 4 L.es.length (pkF f)] := by rw [← hf]; rfl
  rw [hG]
  show (t18 L L.es.length f att tmo).sat _ _
  rw [t18_eq]
  refine code_loop fine e18ok 1 (live := [0, 1, 2, 7, 8, 9]) (N := 54) kl18
      (fun xs H => ∃ i : Nat, i ≤ L.es.length ∧ xs = x18 att tmo ((L.es.take i).filter fun p => !overX att tmo p).length ((L.es.take i).filter (overX att tmo)).length i ∧
        H = H18 L L.es.length f ((L.es.take i).filter fun p => !overX att tmo p).length (pkG ((L.es.take i).filter fun p => !overX att tmo p)) ((L.es.take i).filter (overX att tmo)).length (pkG ((L.es.take i).filter (overX att tmo))))
      (fun xs _ => L.es.length - ctr 5 xs) ?_ ?_ rfl ?_
  · rintro xs H ⟨i, _, _, rfl⟩; show 2 ≤ 4; omega
  · intro xs H vs hI
    cases hI with | intro i hI =>
    have hi := hI.1
    have hxs := hI.2.1
    have hH := hI.2.2
    clear hI
    rw [hxs, hH]
    generalize hk : (L.es.take i).filter (fun p => !overX att tmo p) = a
    generalize hm : (L.es.take i).filter (overX att tmo) = b
    have hka : a.length ≤ L.es.length := by rw [← hk]; exact Nat.le_trans (List.length_filter_le _ _) (by rw [List.length_take]; omega)
    have hmb : b.length ≤ L.es.length := by rw [← hm]; exact Nat.le_trans (List.length_filter_le _ _) (by rw [List.length_take]; omega)
    have e := t18b_eq L L.es.length f att tmo a.length (pkG a) b.length (pkG b) i vs
    unfold t18b at e
    rw [e]
    refine ⟨fun hlt => ?_, fun hge => ?_⟩
    · have hlt : i < L.es.length := by simpa using hlt
      have hn := take_next hlt
      simp only [Int.toNat_natCast, Nat.zero_add, hfe]
      have hmem : L.es.getD i Pkt.zero ∈ L.es := by rw [List.getD_eq_getElem?_getD, List.getElem?_eq_getElem hlt]; exact List.getElem_mem hlt
      have hsent := h.sent _ hmem
      generalize hq : L.es.getD i Pkt.zero = q at hn hsent
      refine ⟨by omega, by omega, ⟨ha, ht, hsent.1, by omega⟩, fun ho => ⟨by omega, by omega, ⟨by omega, by simp [chunks_len], by unfold most; omega⟩, ?_⟩, fun ho => ⟨by omega, by omega, ⟨by omega, by simp [chunks_len], by unfold most; omega⟩, ?_⟩⟩
      · have ho : overX att tmo q = true := ho
        refine Re.row 5 (pkG (b ++ [q])) rfl (app_pk b _ _ rfl) (Re.ren [some 0, some 1, some 2, some 5] rfl rfl rfl (.refl ⟨⟨i + 1, by omega, ?_, ?_⟩, ?_⟩))
        · refine Eq.trans (b := x18 att tmo a.length (b.length + 1) (IntKind.i64.wrap ((i : Int) + 1))) rfl (x18_eq ?_ ?_ ?_)
          · rw [hn, List.filter_append, hk, List.filter_cons, ho]; simp
          · rw [hn, List.filter_append, hm, List.filter_cons, ho]; simp
          · rw [wrap_succ (by omega)]
        · rw [hn, List.filter_append, List.filter_append, hk, hm, List.filter_cons, List.filter_cons, ho]
          simp [H18, rc]
        · simp only [ctr, List.getD_cons_succ, List.getD_cons_zero, asInt, Option.getD_some, x18]
          rw [wrap_succ (by omega)]
          omega
      · have ho : overX att tmo q = false := ho
        refine Re.row 5 (pkG (a ++ [q])) rfl (app_pk a _ _ rfl) (Re.ren [some 0, some 1, some 5, some 3] rfl rfl rfl (.refl ⟨⟨i + 1, by omega, ?_, ?_⟩, ?_⟩))
        · refine Eq.trans (b := x18 att tmo (a.length + 1) b.length (IntKind.i64.wrap ((i : Int) + 1))) rfl (x18_eq ?_ ?_ ?_)
          · rw [hn, List.filter_append, hk, List.filter_cons, ho]; simp
          · rw [hn, List.filter_append, hm, List.filter_cons, ho]; simp
          · rw [wrap_succ (by omega)]
        · rw [hn, List.filter_append, List.filter_append, hk, hm, List.filter_cons, List.filter_cons, ho]
          simp [H18, rc]
        · simp only [ctr, List.getD_cons_succ, List.getD_cons_zero, asInt, Option.getD_some, x18]
          rw [wrap_succ (by omega)]
          omega
    · have hge : L.es.length ≤ i := by simpa using hge
      have hi' : i = L.es.length := by omega
      intro vs
      rw [hi', List.take_of_length_le (Nat.le_refl _)] at hk hm
      show (t18k L L.es.length f att tmo a.length (pkG a) b.length (pkG b) (i : Nat) vs).sat _ _
      rw [t18k_eq]
      refine .toD (Re.ren [some 0, none, some 2, some 3] rfl rfl rfl (.refl ⟨_, rfl, ?_, ?_⟩))
      · rw [← hm]; rfl
      · rw [← hm, ← hk]; rfl
  · refine .toDm [false, false, false, false, false, true] [] (Re.nil 3 36 4 (pkG []) (by decide) rfl (Re.nil 4 36 4 (pkG []) (by decide) rfl (.refl ⟨0, Nat.zero_le _, rfl, rfl⟩)))

end Go.Proofs.Ythckkoledhjmeaa.Ev
