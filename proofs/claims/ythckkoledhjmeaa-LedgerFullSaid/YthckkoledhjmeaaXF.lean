/-
  Summaries of a ledger's functions, the program's and the document's, in whatever heap.
-/
import Derived.Test.YthckkoledhjmeaaXE
namespace Go.Proofs.Ythckkoledhjmeaa.Ev
open Go

theorem CallsA.pre {P : Program} {f : Nat} {args : List AV} {H : Heap} {Q : AV → Heap → Prop} (h : Re H.length args H fun args2 H2 => CallsA P f args2 H2 Q) : CallsA P f args H Q := by
  intro E w hr ha
  obtain ⟨args2, H2, E2, st, e, ok, hc⟩ := h E w hr ha (Nat.le_refl _)
  have := hc E2 w st.rep ok
  rw [e] at this
  refine this.mono ?_
  rintro e w' ⟨r, H', E', h1, h2, h3, h4, h5⟩
  exact ⟨r, H', E', h1, st.trans h2 st.len, h3, h4, h5⟩

def ledAt (H : Heap) (l : Nat) : Option (LSt × Nat) :=
  match H[l]? with
  | some (.cells 86 [a, b, c, d, .mp lm]) => match a.num, b.num, c.num, d.num, H[lm]? with
    | some (.i64, a), some (.u64, b), some (.u64, c), some (.i64, d), some (.pm es) => some (⟨a, b, c, d, es⟩, lm)
    | _, _, _, _, _ => none
  | _ => none

def putLed (H : Heap) (l lm : Nat) (L : LSt) : Heap := (H.set l (.cells 86 (lc L lm))).set lm (.pm L.es)

def rowPk (n : Nat) (g : Nat → List Value) : List Pkt := (List.range n).map fun j => decPkt (g j)

theorem rowPk_pkG (es : List Pkt) : rowPk es.length (pkG es) = es := by
  apply List.ext_getElem?
  intro i
  simp only [rowPk, List.getElem?_map, pkG_get, dec_vals]
  by_cases h : i < es.length
  · simp [h]
  · simp [h]

theorem rowPk_len (n : Nat) (g : Nat → List Value) : (rowPk n g).length = n := by simp [rowPk]

def refAt (H : Heap) (l : Nat) : Option (LSt × Nat × Prop) :=
  match H[l]? with
  | some (.cells 44 [a, b, c, d, .sl lr 4 0 n 0]) => match a.num, b.num, c.num, d.num, H[lr]? with
    | some (.i64, a), some (.u64, b), some (.u64, c), some (.i64, d), some (.row 36 4 m g) => some (⟨a, b, c, d, rowPk m g⟩, lr, m = n ∧ PkRow m g)
    | _, _, _, _, _ => none
  | _ => none

def putRef (H : Heap) (l lr : Nat) (L : LSt) : Heap := (H.set l (.cells 44 (rc L H.length L.es.length))).set lr .dead ++ [.row 36 4 L.es.length (pkG L.es)]

theorem pos2a (l lm : Nat) : posOf l [some l, some lm] = some 0 := by simp [posOf]
theorem pos2b {l lm : Nat} (h : l ≠ lm) : posOf lm [some l, some lm] = some 1 := by
  have : Nat.beq lm l = false := by rw [Bool.eq_false_iff]; intro e; exact h (Nat.eq_of_beq_eq_true e).symm
  simp [posOf, this]
theorem nodup2 {l lm : Nat} (h : l ≠ lm) : nodupB [some l, some lm] = true := by
  have : Nat.beq l lm = false := by rw [Bool.eq_false_iff]; intro e; exact h (Nat.eq_of_beq_eq_true e)
  simp [nodupB, memB, this]

theorem mp_ren {ms : List (Option Nat)} {l p : Nat} (h : posOf l ms = some p) : (SV.mp l).ren ms = some (.mp p) := by simp only [SV.ren, h]
theorem sl_ren {ms : List (Option Nat)} {l p k i n z : Nat} (h : posOf l ms = some p) : (SV.sl l k i n z).ren ms = some (.sl p k i n z) := by simp only [SV.ren, h]
theorem ptr_ren {ms : List (Option Nat)} {l p o : Nat} (h : posOf l ms = some p) : (AV.e (.s (.ptr l o))).ren ms = some (.e (.s (.ptr p o))) := by simp only [AV.ren, EV.ren, SV.ren, h]

theorem ledAt_facts {H : Heap} {l lm : Nat} {L : LSt} (h : ledAt H l = some (L, lm)) : ∃ a b c d : SV, H[l]? = some (.cells 86 [a, b, c, d, .mp lm]) ∧ a.num = some (.i64, L.room) ∧ b.num = some (.u64, L.first) ∧ c.num = some (.u64, L.next) ∧ d.num = some (.i64, L.last) ∧ H[lm]? = some (.pm L.es) := by
  unfold ledAt at h
  split at h
  · rename_i a b c d lm' hl
    split at h
    · rename_i a' b' c' d' es ha hb hc hd hm
      cases h
      exact ⟨a, b, c, d, hl, ha, hb, hc, hd, hm⟩
    · cases h
  · cases h

theorem led_lift {P : Program} {f : Nat} {rest rest0 : List AV} {H : Heap} {l lm : Nat} {L L' : LSt} {r : AV} {ex : Heap} (hl : ledAt H l = some (L, lm)) (hr : ∀ ms, renFr ms rest = some rest) (h0 : rest.map AV.toD = rest0) (hro : noRo ex = true)
    (h : CallsA P f (.e (.s (.ptr 0 0)) :: rest0) (lhp L) fun r' H' => r' = r ∧ H' = lhp L' ++ ex) :
    CallsA P f (.e (.s (.ptr l 0)) :: rest) H fun r' H' => r' = r.by (back [l, lm] H.length) ∧ H' = putLed H l lm L' ++ ex.map (AB.by (back [l, lm] H.length)) := by
  obtain ⟨a, b, c, d, hc, ha, hb, hcc, hd, hm⟩ := ledAt_facts hl
  have hne : l ≠ lm := by intro e; subst e; rw [hc] at hm; cases hm
  obtain ⟨a1, a2, _⟩ := num_facts ha
  obtain ⟨b1, b2, _⟩ := num_facts hb
  obtain ⟨c1, c2, _⟩ := num_facts hcc
  obtain ⟨d1, d2, _⟩ := num_facts hd
  refine CallsA.lift (args0 := .e (.s (.ptr 0 0)) :: rest) (H0 := [.cells 86 [a, b, c, d, .mp 1], .pm L.es]) [l, lm] ?_ ?_ (nodup2 hne) (Q0 := fun r' H' => r' = r ∧ H' = lhp L' ++ ex) (CallsA.toD ?_) ?_ ?_
  · simp only [List.map_cons, List.map_nil, renFr, ptr_ren (pos2a _ _), hr]
  · simp only [List.map_cons, List.map_nil, renH, hc, hm, AB.ren, renCells, a1, b1, c1, d1, mp_ren (pos2b hne)]
  · subst h0
    have e1 : (AV.e (.s (.ptr 0 0)) :: rest).map AV.toD = .e (.s (.ptr 0 0)) :: rest.map AV.toD := rfl
    have e2 : ([.cells 86 [a, b, c, d, .mp 1], .pm L.es] : Heap).map AB.toD = lhp L := by simp only [List.map_cons, List.map_nil, AB.toD, a2, b2, c2, d2]; rfl
    rw [e1, e2]
    exact h
  · rintro r' H' ⟨_, rfl⟩
    exact noRo_app rfl hro
  · rintro r' H' ⟨rfl, rfl⟩
    refine ⟨rfl, ?_⟩
    simp [backH, backSet, lhp, AB.by, lc, SV.by, back, putLed]

theorem refAt_facts {H : Heap} {l lr : Nat} {L : LSt} {p : Prop} (h : refAt H l = some (L, lr, p)) : ∃ (a b c d : SV) (n m : Nat) (g : Nat → List Value), H[l]? = some (.cells 44 [a, b, c, d, .sl lr 4 0 n 0]) ∧ a.num = some (.i64, L.room) ∧ b.num = some (.u64, L.first) ∧ c.num = some (.u64, L.next) ∧ d.num = some (.i64, L.last) ∧ H[lr]? = some (.row 36 4 m g) ∧ L.es = rowPk m g ∧ p = (m = n ∧ PkRow m g) := by
  unfold refAt at h
  split at h
  · rename_i a b c d lr' n hl
    split at h
    · rename_i a' b' c' d' m g ha hb hc hd hm
      cases h
      exact ⟨a, b, c, d, n, m, g, hl, ha, hb, hc, hd, hm, rfl, rfl⟩
    · cases h
  · cases h

theorem ref_lift {P : Program} {f : Nat} {rest rest0 : List AV} {H : Heap} {l lr : Nat} {L L' : LSt} {p : Prop} {r : AV} {ex : Heap} (hl : refAt H l = some (L, lr, p)) (hp : p) (hr : ∀ ms, renFr ms rest = some rest) (h0 : rest.map AV.toD = rest0) (hro : noRo ex = true)
    (h : CallsA P f (.e (.s (.ptr 0 0)) :: rest0) (rhp L) fun r' H' => r' = r ∧ H' = rhp2 L' ++ ex) :
    CallsA P f (.e (.s (.ptr l 0)) :: rest) H fun r' H' => r' = r.by (back [l, lr] H.length) ∧ H' = putRef H l lr L' ++ ex.map (AB.by (back [l, lr] H.length)) := by
  obtain ⟨a, b, c, d, n, m, g, hc, ha, hb, hcc, hd, hm, hes, rfl⟩ := refAt_facts hl
  obtain ⟨rfl, hpk⟩ := hp
  have hne : l ≠ lr := by intro e; subst e; rw [hc] at hm; cases hm
  obtain ⟨a1, a2, _⟩ := num_facts ha
  obtain ⟨b1, b2, _⟩ := num_facts hb
  obtain ⟨c1, c2, _⟩ := num_facts hcc
  obtain ⟨d1, d2, _⟩ := num_facts hd
  refine CallsA.lift (args0 := .e (.s (.ptr 0 0)) :: rest) (H0 := [.cells 44 [a, b, c, d, .sl 1 4 0 m 0], .row 36 4 m g]) [l, lr] ?_ ?_ (nodup2 hne) (Q0 := fun r' H' => r' = r ∧ H' = rhp2 L' ++ ex) (CallsA.toD (CallsA.pre (Re.row 1 (pkG L.es) rfl ?_ (.refl ?_)))) ?_ ?_
  · simp only [List.map_cons, List.map_nil, renFr, ptr_ren (pos2a _ _), hr]
  · simp only [List.map_cons, List.map_nil, renH, hc, hm, AB.ren, renCells, a1, b1, c1, d1, sl_ren (pos2b hne)]
  · intro j hj
    rw [hpk j hj, hes]
    simp only [pkG_get, rowPk]
    rw [List.getD_eq_getElem?_getD, List.getElem?_map, List.getElem?_range hj]
    rfl
  · subst h0
    have e1 : (AV.e (.s (.ptr 0 0)) :: rest).map AV.toD = .e (.s (.ptr 0 0)) :: rest.map AV.toD := rfl
    have hlen : L.es.length = m := by rw [hes, rowPk_len]
    have e2 : (([.cells 44 [a, b, c, d, .sl 1 4 0 m 0], .row 36 4 m g] : Heap).map AB.toD).set 1 (.row 36 4 m (pkG L.es)) = rhp L := by
      simp only [List.map_cons, List.map_nil, AB.toD, a2, b2, c2, d2, List.set_cons_succ, List.set_cons_zero]
      unfold rhp rc
      rw [hlen]
      rfl
    rw [e1, e2]
    exact h
  · rintro r' H' ⟨_, rfl⟩
    exact noRo_app rfl hro
  · rintro r' H' ⟨rfl, rfl⟩
    refine ⟨rfl, ?_⟩
    simp [backH, backSet, rhp2, AB.by, rc, SV.by, back, putRef]

/-! ### The summaries -/

def s12 (args : List AV) (H : Heap) : T (AV × Heap) :=
  match args with
  | [.e (.s (.ptr l 0)), a, b, c] => match ledAt H l, numA a, numA b, numA c with
    | some (L, lm), some (.i64, mi), some (.i64, size), some (.i64, at') => .need L.Ok (.ret (sendR L mi size at', putLed H l lm (sendL L mi size at')))
    | _, _, _, _ => .fail
  | _ => .fail

def s14 (args : List AV) (H : Heap) : T (AV × Heap) :=
  match args with
  | [.e (.s (.ptr l 0)), a] => match ledAt H l, numA a with
    | some (L, lm), some (.u64, seq) => .ret (takeR L seq, putLed H l lm (takeL L seq))
    | _, _ => .fail
  | [.e (.s (.c (.pointer none))), a] => match numA a with
    | some (.u64, _) => .ret (.tup [.agg Pkt.zero.cells, .s (.d (.int .i64 5))], H)
    | _ => .fail
  | _ => .fail

def s13 (args : List AV) (H : Heap) : T (AV × Heap) :=
  match args with
  | [.e (.s (.ptr l 0)), a, b, c] => match refAt H l, numA a, numA b, numA c with
    | some (L, lr, p), some (.i64, mi), some (.i64, size), some (.i64, at') => .need (p ∧ L.Ok) (.ret (sendR L mi size at', putRef H l lr (sendL L mi size at')))
    | _, _, _, _ => .fail
  | _ => .fail

def s15 (args : List AV) (H : Heap) : T (AV × Heap) :=
  match args with
  | [.e (.s (.ptr l 0)), a] => match refAt H l, numA a with
    | some (L, lr, p), some (.u64, seq) => .need (p ∧ L.Ok) (.ret (takeR L seq, putRef H l lr (takeL L seq)))
    | _, _ => .fail
  | _ => .fail

def s18 (args : List AV) (H : Heap) : T (AV × Heap) :=
  match args with
  | [.e (.s (.ptr l 0)), a, b] => match refAt H l, numA a, numA b with
    | some (L, lr, p), some (.i64, att), some (.i64, tmo) => .need (p ∧ L.Ok ∧ I64 att ∧ I64 tmo) (.ret (.e (.s (.sl (H.length + 1) 4 0 (expP L att tmo).length 0)), putRef H l lr (expL L att tmo) ++ [.row 36 4 (expP L att tmo).length (pkG (expP L att tmo))]))
    | _, _, _ => .fail
  | _ => .fail

theorem s12ok : (Ent.summ s12).ok Try.prog 12 := by
  intro args H Q hq
  unfold s12 at hq
  split at hq
  · rename_i l a b c
    split at hq
    · rename_i L lm mi size at' hl ha hb hc
      obtain ⟨hL, hq⟩ := hq
      obtain ⟨a1, a2⟩ := numA_facts ha
      obtain ⟨b1, b2⟩ := numA_facts hb
      obtain ⟨c1, c2⟩ := numA_facts hc
      refine (led_lift (ex := []) hl ?_ ?_ rfl ((send12 L hL mi size at').mono fun r H' h => ⟨h.1, by rw [h.2, List.append_nil]⟩)).mono ?_
      · intro ms; simp only [renFr, a1, b1, c1]
      · simp only [List.map_cons, List.map_nil, a2, b2, c2]
      · rintro r H' ⟨rfl, rfl⟩
        rw [List.map_nil, List.append_nil]
        exact hq
    · exact hq.elim
  · exact hq.elim

theorem take14n (seq : Int) : CallsA Try.prog 14 [.c (.pointer none), .d (.int .u64 seq)] [] fun r H' => r = .tup [.agg Pkt.zero.cells, .s (.d (.int .i64 5))] ∧ H' = [] := by
  refine CallsA.re (calls_of fine e14ok 1 14 _ _ ?_)
  show (t14n seq).sat _ _
  rw [t14n_eq]
  exact .toD (.refl ⟨_, rfl, rfl, rfl⟩)

theorem s14ok : (Ent.summ s14).ok Try.prog 14 := by
  intro args H Q hq
  unfold s14 at hq
  split at hq
  · rename_i l a
    split at hq
    · rename_i L lm seq hl ha
      obtain ⟨a1, a2⟩ := numA_facts ha
      refine (led_lift (ex := []) hl ?_ ?_ rfl ((take14 L seq).mono fun r H' h => ⟨h.1, by rw [h.2, List.append_nil]⟩)).mono ?_
      · intro ms; simp only [renFr, a1]
      · simp only [List.map_cons, List.map_nil, a2]
      · rintro r H' ⟨rfl, rfl⟩
        rw [List.map_nil, List.append_nil]
        exact hq
    · exact hq.elim
  · rename_i a
    split at hq
    · rename_i seq ha
      obtain ⟨a1, a2⟩ := numA_facts ha
      refine CallsA.lift (args0 := [.c (.pointer none), a]) (H0 := []) [] ?_ rfl rfl (Q0 := fun r H' => r = .tup [.agg Pkt.zero.cells, .s (.d (.int .i64 5))] ∧ H' = []) ?_ ?_ ?_
      · simp only [List.map_nil, renFr, a1]; rfl
      · refine CallsA.pre (Re.toDm [false, true] [] (.refl ?_))
        show CallsA Try.prog 14 [.c (.pointer none), a.toD] [] _
        rw [a2]
        exact take14n seq
      · rintro r H' ⟨_, rfl⟩; rfl
      · rintro r H' ⟨rfl, rfl⟩
        rw [backH_nil]
        exact hq
    · exact hq.elim
  · exact hq.elim

theorem s13ok : (Ent.summ s13).ok Try.prog 13 := by
  intro args H Q hq
  unfold s13 at hq
  split at hq
  · rename_i l a b c
    split at hq
    · rename_i L lr p mi size at' hl ha hb hc
      obtain ⟨⟨hp, hL⟩, hq⟩ := hq
      obtain ⟨a1, a2⟩ := numA_facts ha
      obtain ⟨b1, b2⟩ := numA_facts hb
      obtain ⟨c1, c2⟩ := numA_facts hc
      refine (ref_lift (ex := []) hl hp ?_ ?_ rfl ((send13 L hL mi size at').mono fun r H' h => ⟨h.1, by rw [h.2, List.append_nil]⟩)).mono ?_
      · intro ms; simp only [renFr, a1, b1, c1]
      · simp only [List.map_cons, List.map_nil, a2, b2, c2]
      · rintro r H' ⟨rfl, rfl⟩
        rw [List.map_nil, List.append_nil]
        exact hq
    · exact hq.elim
  · exact hq.elim

theorem s15ok : (Ent.summ s15).ok Try.prog 15 := by
  intro args H Q hq
  unfold s15 at hq
  split at hq
  · rename_i l a
    split at hq
    · rename_i L lr p seq hl ha
      obtain ⟨⟨hp, hL⟩, hq⟩ := hq
      obtain ⟨a1, a2⟩ := numA_facts ha
      refine (ref_lift (ex := []) hl hp ?_ ?_ rfl ((take15 L hL seq).mono fun r H' h => ⟨h.1, by rw [h.2, List.append_nil]⟩)).mono ?_
      · intro ms; simp only [renFr, a1]
      · simp only [List.map_cons, List.map_nil, a2]
      · rintro r H' ⟨rfl, rfl⟩
        rw [List.map_nil, List.append_nil]
        exact hq
    · exact hq.elim
  · exact hq.elim

theorem s18ok : (Ent.summ s18).ok Try.prog 18 := by
  intro args H Q hq
  unfold s18 at hq
  split at hq
  · rename_i l a b
    split at hq
    · rename_i L lr p att tmo hl ha hb
      obtain ⟨⟨hp, hL, h1, h2⟩, hq⟩ := hq
      obtain ⟨a1, a2⟩ := numA_facts ha
      obtain ⟨b1, b2⟩ := numA_facts hb
      refine (ref_lift (ex := [.row 36 4 (expP L att tmo).length (pkG (expP L att tmo))]) hl hp ?_ ?_ rfl ((expire18 L hL att tmo h1 h2).mono fun r H' h => ⟨h.1, h.2⟩)).mono ?_
      · intro ms; simp only [renFr, a1, b1]
      · simp only [List.map_cons, List.map_nil, a2, b2]
      · rintro r H' ⟨rfl, rfl⟩
        exact hq
    · exact hq.elim
  · exact hq.elim

end Go.Proofs.Ythckkoledhjmeaa.Ev
