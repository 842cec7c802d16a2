/-
  Books in whatever heap: where they lie, and how a contract is told there.
-/
import Derived.Test.YthckkoledhjmeaaBR
namespace Go.Proofs.Ythckkoledhjmeaa.Ev
open Go

def rowMi (n : Nat) (g : Nat → List Value) : List Mi := (List.range n).map fun j => decMi (g j)

theorem rowMi_len (n : Nat) (g : Nat → List Value) : (rowMi n g).length = n := by simp [rowMi]

theorem rowMi_get {n : Nat} {g : Nat → List Value} {j : Nat} (h : j < n) : (rowMi n g).getD j Mi.zero = decMi (g j) := by
  rw [getD_lt (by rw [rowMi_len]; exact h)]
  simp [rowMi]

theorem rowMi_miG (ms : List Mi) : rowMi ms.length (miG ms) = ms := by
  apply List.ext_getElem
  · rw [rowMi_len]
  · intro i h1 h2
    rw [← getD_lt h1, ← getD_lt h2, rowMi_get h2]
    rfl

theorem rowMi_row {n : Nat} {g : Nat → List Value} (h : MiRow n g) {j : Nat} (hj : j < n) : g j = miG (rowMi n g) j := by
  rw [h j hj, miG_get, rowMi_get hj]

/-! ### The program's -/

def bkAt (H : Heap) (l : Nat) : Option (BSt × Nat × Nat × Nat × Prop) :=
  match H[l]? with
  | some (.cells 95 [.ptr p 0, a, .sl lr 15 0 n 0, b, c]) => match a.num, b.num, c.num, ledAt H p, H[lr]? with
    | some (.i64, now), some (.i64, id), some (.i64, tmo), some (L, lm), some (.row 80 15 m g) => some (⟨L, now, rowMi m g, id, tmo⟩, p, lm, lr, m = n ∧ MiRow m g)
    | _, _, _, _, _ => none
  | _ => none

def putBk (H : Heap) (l p lm lr : Nat) (B : BSt) : Heap :=
  (((H.set l (.cells 95 [.ptr p 0, .d (.int .i64 B.now), .sl H.length 15 0 B.ms.length 0, .d (.int .i64 B.id), .d (.int .i64 B.tmo)])).set p (.cells 86 (lc B.L lm))).set lm (.pm B.L.es)).set lr .dead ++ [.row 80 15 B.ms.length (miG B.ms)]

theorem bkAt_facts {H : Heap} {l p lm lr : Nat} {B : BSt} {q : Prop} (h : bkAt H l = some (B, p, lm, lr, q)) : ∃ (a b c : SV) (n m : Nat) (g : Nat → List Value), H[l]? = some (.cells 95 [.ptr p 0, a, .sl lr 15 0 n 0, b, c]) ∧ a.num = some (.i64, B.now) ∧ b.num = some (.i64, B.id) ∧ c.num = some (.i64, B.tmo) ∧
    ledAt H p = some (B.L, lm) ∧ H[lr]? = some (.row 80 15 m g) ∧ B.ms = rowMi m g ∧ q = (m = n ∧ MiRow m g) := by
  unfold bkAt at h
  split at h
  · rename_i p' a lr' n b c hl
    split at h
    · rename_i now id tmo L lm' m g ha hb hc hd hm
      cases h
      exact ⟨a, b, c, n, m, g, hl, ha, hb, hc, hd, hm, rfl, rfl⟩
    · cases h
  · cases h

theorem nb {a b : Nat} (h : a ≠ b) : Nat.beq a b = false := by
  rw [Bool.eq_false_iff]; intro e; exact h (Nat.eq_of_beq_eq_true e)

theorem pos4a (a b c d : Nat) : posOf a [some a, some b, some c, some d] = some 0 := by simp [posOf]
theorem pos4b {a b c d : Nat} (h : a ≠ b) : posOf b [some a, some b, some c, some d] = some 1 := by simp [posOf, nb h.symm]
theorem pos4c {a b c d : Nat} (h : a ≠ c) (h2 : b ≠ c) : posOf c [some a, some b, some c, some d] = some 2 := by simp [posOf, nb h.symm, nb h2.symm]
theorem pos4d {a b c d : Nat} (h : a ≠ d) (h2 : b ≠ d) (h3 : c ≠ d) : posOf d [some a, some b, some c, some d] = some 3 := by simp [posOf, nb h.symm, nb h2.symm, nb h3.symm]
theorem nodup4 {a b c d : Nat} (h1 : a ≠ b) (h2 : a ≠ c) (h3 : a ≠ d) (h4 : b ≠ c) (h5 : b ≠ d) (h6 : c ≠ d) : nodupB [some a, some b, some c, some d] = true := by
  simp [nodupB, memB, nb h1, nb h2, nb h3, nb h4, nb h5, nb h6]

theorem ptr_sv {ms : List (Option Nat)} {l p o : Nat} (h : posOf l ms = some p) : (SV.ptr l o).ren ms = some (.ptr p o) := by simp only [SV.ren, h]

theorem bk_lift {f : Nat} {rest rest0 : List AV} {H : Heap} {l p lm lr : Nat} {B B' : BSt} {q : Prop} {r : AV} {ex : Heap} (hl : bkAt H l = some (B, p, lm, lr, q)) (hq : q) (hr : ∀ ms, renFr ms rest = some rest) (h0 : rest.map AV.toD = rest0) (hro : noRo ex = true)
    (h : CallsA Try.prog f (.e (.s (.ptr 0 0)) :: rest0) (bhp B) fun r' H' => r' = r ∧ H' = bhp4 B' ++ ex) :
    CallsA Try.prog f (.e (.s (.ptr l 0)) :: rest) H fun r' H' => r' = r.by (back [l, p, lm, lr] H.length) ∧ H' = putBk H l p lm lr B' ++ ex.map (AB.by (back [l, p, lm, lr] H.length)) := by
  obtain ⟨a, b, c, n, m, g, hl1, ha, hb, hc, hled, hrow, hms, rfl⟩ := bkAt_facts hl
  obtain ⟨rfl, hmi⟩ := hq
  obtain ⟨x1, x2, x3, x4, hp1, hx1, hx2, hx3, hx4, hpm⟩ := ledAt_facts hled
  have d1 : l ≠ p := by intro e; subst e; rw [hl1] at hp1; cases hp1
  have d2 : l ≠ lm := by intro e; subst e; rw [hl1] at hpm; cases hpm
  have d3 : l ≠ lr := by intro e; subst e; rw [hl1] at hrow; cases hrow
  have d4 : p ≠ lm := by intro e; subst e; rw [hp1] at hpm; cases hpm
  have d5 : p ≠ lr := by intro e; subst e; rw [hp1] at hrow; cases hrow
  have d6 : lm ≠ lr := by intro e; subst e; rw [hpm] at hrow; cases hrow
  obtain ⟨a1, a2, _⟩ := num_facts ha
  obtain ⟨b1, b2, _⟩ := num_facts hb
  obtain ⟨c1, c2, _⟩ := num_facts hc
  obtain ⟨y1, z1, _⟩ := num_facts hx1
  obtain ⟨y2, z2, _⟩ := num_facts hx2
  obtain ⟨y3, z3, _⟩ := num_facts hx3
  obtain ⟨y4, z4, _⟩ := num_facts hx4
  refine CallsA.lift (args0 := .e (.s (.ptr 0 0)) :: rest) (H0 := [.cells 95 [.ptr 1 0, a, .sl 3 15 0 m 0, b, c], .cells 86 [x1, x2, x3, x4, .mp 2], .pm B.L.es, .row 80 15 m g]) [l, p, lm, lr] ?_ ?_ (nodup4 d1 d2 d3 d4 d5 d6)
    (Q0 := fun r' H' => r' = r ∧ H' = bhp4 B' ++ ex) (CallsA.toD (CallsA.pre (Re.row 3 (miG B.ms) rfl ?_ (.refl ?_)))) ?_ ?_
  · simp only [List.map_cons, List.map_nil, renFr, ptr_ren (pos4a _ _ _ _), hr]
  · simp only [List.map_cons, List.map_nil, renH, hl1, hp1, hpm, hrow, AB.ren, renCells, a1, b1, c1, y1, y2, y3, y4, ptr_sv (pos4b d1), sl_ren (pos4d d3 d5 d6), mp_ren (pos4c d2 d4)]
  · intro j hj
    rw [hms]
    exact rowMi_row hmi hj
  · subst h0
    have e1 : (AV.e (.s (.ptr 0 0)) :: rest).map AV.toD = .e (.s (.ptr 0 0)) :: rest.map AV.toD := rfl
    have hlen : B.ms.length = m := by rw [hms, rowMi_len]
    have e2 : (([.cells 95 [.ptr 1 0, a, .sl 3 15 0 m 0, b, c], .cells 86 [x1, x2, x3, x4, .mp 2], .pm B.L.es, .row 80 15 m g] : Heap).map AB.toD).set 3 (.row 80 15 m (miG B.ms)) = bhp B := by
      simp only [List.map_cons, List.map_nil, AB.toD, a2, b2, c2, z1, z2, z3, z4, List.set_cons_succ, List.set_cons_zero]
      unfold bhp bH lc
      rw [hlen]
      rfl
    rw [e1, e2]
    exact h
  · rintro r' H' ⟨_, rfl⟩
    exact noRo_app rfl hro
  · rintro r' H' ⟨rfl, rfl⟩
    refine ⟨rfl, ?_⟩
    simp [backH, backSet, bhp4, AB.by, lc, SV.by, back, putBk]

/-! ### The document's -/

def rhb (B : BSt) : Heap := rH B.L B.L.es.length (pkG B.L.es) B.ms.length (miG B.ms) B.now B.id B.tmo
def rhb4 (B : BSt) : Heap :=
  [.cells 72 [.ptr 1 0, .sl 5 15 0 B.ms.length 0, .d (.int .i64 B.id), .d (.int .i64 B.tmo), .d (.int .i64 B.now)], .cells 44 (rc B.L 4 B.L.es.length), .dead, .dead, .row 36 4 B.L.es.length (pkG B.L.es), .row 80 15 B.ms.length (miG B.ms)]

def rbAt (H : Heap) (l : Nat) : Option (BSt × Nat × Nat × Nat × Prop) :=
  match H[l]? with
  | some (.cells 72 [.ptr p 0, .sl lr 15 0 n 0, b, c, a]) => match a.num, b.num, c.num, refAt H p, H[lr]? with
    | some (.i64, now), some (.i64, id), some (.i64, tmo), some (L, lk, q), some (.row 80 15 m g) => some (⟨L, now, rowMi m g, id, tmo⟩, p, lk, lr, (m = n ∧ MiRow m g) ∧ q)
    | _, _, _, _, _ => none
  | _ => none

def putRb (H : Heap) (l p lk lr : Nat) (B : BSt) : Heap :=
  (((H.set l (.cells 72 [.ptr p 0, .sl (H.length + 1) 15 0 B.ms.length 0, .d (.int .i64 B.id), .d (.int .i64 B.tmo), .d (.int .i64 B.now)])).set p (.cells 44 (rc B.L H.length B.L.es.length))).set lk .dead).set lr .dead ++ [.row 36 4 B.L.es.length (pkG B.L.es), .row 80 15 B.ms.length (miG B.ms)]

theorem rbAt_facts {H : Heap} {l p lk lr : Nat} {B : BSt} {q : Prop} (h : rbAt H l = some (B, p, lk, lr, q)) : ∃ (a b c : SV) (n m : Nat) (g : Nat → List Value) (q' : Prop), H[l]? = some (.cells 72 [.ptr p 0, .sl lr 15 0 n 0, b, c, a]) ∧ a.num = some (.i64, B.now) ∧ b.num = some (.i64, B.id) ∧ c.num = some (.i64, B.tmo) ∧
    refAt H p = some (B.L, lk, q') ∧ H[lr]? = some (.row 80 15 m g) ∧ B.ms = rowMi m g ∧ q = ((m = n ∧ MiRow m g) ∧ q') := by
  unfold rbAt at h
  split at h
  · rename_i p' lr' n b c a hl
    split at h
    · rename_i now id tmo L lk' q' m g ha hb hc hd hm
      cases h
      exact ⟨a, b, c, n, m, g, q', hl, ha, hb, hc, hd, hm, rfl, rfl⟩
    · cases h
  · cases h

theorem rb_lift {f : Nat} {rest rest0 : List AV} {H : Heap} {l p lk lr : Nat} {B B' : BSt} {q : Prop} {r : AV} {ex : Heap} (hl : rbAt H l = some (B, p, lk, lr, q)) (hq : q) (hr : ∀ ms, renFr ms rest = some rest) (h0 : rest.map AV.toD = rest0) (hro : noRo ex = true)
    (h : CallsA Try.prog f (.e (.s (.ptr 0 0)) :: rest0) (rhb B) fun r' H' => r' = r ∧ H' = rhb4 B' ++ ex) :
    CallsA Try.prog f (.e (.s (.ptr l 0)) :: rest) H fun r' H' => r' = r.by (back [l, p, lk, lr] H.length) ∧ H' = putRb H l p lk lr B' ++ ex.map (AB.by (back [l, p, lk, lr] H.length)) := by
  obtain ⟨a, b, c, n, m, g, q', hl1, ha, hb, hc, hled, hrow, hms, rfl⟩ := rbAt_facts hl
  obtain ⟨⟨rfl, hmi⟩, hq'⟩ := hq
  obtain ⟨x1, x2, x3, x4, k, k', pg, hp1, hx1, hx2, hx3, hx4, hpm, hes, rfl⟩ := refAt_facts hled
  obtain ⟨rfl, hpk⟩ := hq'
  have d1 : l ≠ p := by intro e; subst e; rw [hl1] at hp1; cases hp1
  have d2 : l ≠ lk := by intro e; subst e; rw [hl1] at hpm; cases hpm
  have d3 : l ≠ lr := by intro e; subst e; rw [hl1] at hrow; cases hrow
  have d4 : p ≠ lk := by intro e; subst e; rw [hp1] at hpm; cases hpm
  have d5 : p ≠ lr := by intro e; subst e; rw [hp1] at hrow; cases hrow
  have d6 : lk ≠ lr := by intro e; subst e; rw [hpm] at hrow; cases hrow
  obtain ⟨a1, a2, _⟩ := num_facts ha
  obtain ⟨b1, b2, _⟩ := num_facts hb
  obtain ⟨c1, c2, _⟩ := num_facts hc
  obtain ⟨y1, z1, _⟩ := num_facts hx1
  obtain ⟨y2, z2, _⟩ := num_facts hx2
  obtain ⟨y3, z3, _⟩ := num_facts hx3
  obtain ⟨y4, z4, _⟩ := num_facts hx4
  refine CallsA.lift (args0 := .e (.s (.ptr 0 0)) :: rest) (H0 := [.cells 72 [.ptr 1 0, .sl 3 15 0 m 0, b, c, a], .cells 44 [x1, x2, x3, x4, .sl 2 4 0 k' 0], .row 36 4 k' pg, .row 80 15 m g]) [l, p, lk, lr] ?_ ?_ (nodup4 d1 d2 d3 d4 d5 d6)
    (Q0 := fun r' H' => r' = r ∧ H' = rhb4 B' ++ ex) (CallsA.toD (CallsA.pre (Re.row 2 (pkG B.L.es) rfl ?_ (Re.row 3 (miG B.ms) rfl ?_ (.refl ?_))))) ?_ ?_
  · simp only [List.map_cons, List.map_nil, renFr, ptr_ren (pos4a _ _ _ _), hr]
  · simp only [List.map_cons, List.map_nil, renH, hl1, hp1, hpm, hrow, AB.ren, renCells, a1, b1, c1, y1, y2, y3, y4, ptr_sv (pos4b d1), sl_ren (pos4d d3 d5 d6), sl_ren (pos4c d2 d4)]
  · intro j hj
    rw [hpk j hj, hes]
    simp only [pkG_get, rowPk]
    rw [List.getD_eq_getElem?_getD, List.getElem?_map, List.getElem?_range hj]
    rfl
  · intro j hj
    rw [hms]
    exact rowMi_row hmi hj
  · subst h0
    have e1 : (AV.e (.s (.ptr 0 0)) :: rest).map AV.toD = .e (.s (.ptr 0 0)) :: rest.map AV.toD := rfl
    have hlen : B.ms.length = m := by rw [hms, rowMi_len]
    have hlen2 : B.L.es.length = k' := by rw [hes, rowPk_len]
    have e2 : ((([.cells 72 [.ptr 1 0, .sl 3 15 0 m 0, b, c, a], .cells 44 [x1, x2, x3, x4, .sl 2 4 0 k' 0], .row 36 4 k' pg, .row 80 15 m g] : Heap).map AB.toD).set 2 (.row 36 4 k' (pkG B.L.es))).set 3 (.row 80 15 m (miG B.ms)) = rhb B := by
      simp only [List.map_cons, List.map_nil, AB.toD, a2, b2, c2, z1, z2, z3, z4, List.set_cons_succ, List.set_cons_zero]
      unfold rhb rH rc
      rw [hlen, hlen2]
      rfl
    rw [e1, e2]
    exact h
  · rintro r' H' ⟨_, rfl⟩
    exact noRo_app rfl hro
  · rintro r' H' ⟨rfl, rfl⟩
    refine ⟨rfl, ?_⟩
    simp [backH, backSet, rhb4, AB.by, rc, SV.by, back, putRb]

def s74 (args : List AV) (H : Heap) : T (AV × Heap) :=
  match args with
  | [.e (.s (.ptr l 0)), .e (.agg cs)] => match rbAt H l, mi15 cs with
    | some (B, p, lk, lr, q), some m => .need (q ∧ B.ms.length ≤ 64) (.ret (.tup [], putRb H l p lk lr ⟨B.L, B.now, putM B.ms m, B.id, B.tmo⟩))
    | _, _ => .fail
  | _ => .fail

def s78 (args : List AV) (H : Heap) : T (AV × Heap) :=
  match args with
  | [.e (.s (.ptr l 0)), a] => match rbAt H l, numA a with
    | some (B, p, lk, lr, q), some (.i64, k) => .need (q ∧ B.ms.length ≤ 64) (.ret (.e (.agg (ofM B.ms k).cells), putRb H l p lk lr B))
    | _, _ => .fail
  | _ => .fail

theorem s74ok : (Ent.summ s74).ok Try.prog 74 := by
  intro args H Q hq
  unfold s74 at hq
  split at hq
  · rename_i l cs
    split at hq
    · rename_i B p lk lr q m hl hm
      obtain ⟨⟨h1, h2⟩, hq⟩ := hq
      obtain ⟨m1, m2, _⟩ := mi15_facts hm
      refine (rb_lift (B' := ⟨B.L, B.now, putM B.ms m, B.id, B.tmo⟩) (r := .tup []) (ex := []) (rest0 := [.e (.agg m.cells)]) hl h1 ?_ ?_ rfl (CallsA.re ((put74 B.L B.L.es.length (pkG B.L.es) B.ms B.now B.id B.tmo m h2).mono ?_))).mono ?_
      · intro ms; simp only [renFr, agg_ren _ (m1 _)]
      · simp only [List.map_cons, List.map_nil, agg_toD, m2]
      · rintro r H' ⟨rfl, rfl⟩
        refine Re.ren [some 0, some 1, none, none, some 2, some 4] rfl rfl rfl (.refl ⟨_, rfl, rfl, ?_⟩)
        simp [rhb4, putM_len, rc]
      · rintro r H' ⟨rfl, rfl⟩
        rw [List.map_nil, List.append_nil]
        exact hq
    · exact hq.elim
  · exact hq.elim

theorem agg_by (m : Mi) (f : Nat → Nat) : (AV.e (.agg m.cells)).by f = .e (.agg m.cells) := rfl

theorem s78ok : (Ent.summ s78).ok Try.prog 78 := by
  intro args H Q hq
  unfold s78 at hq
  split at hq
  · rename_i l a
    split at hq
    · rename_i B p lk lr q k hl ha
      obtain ⟨⟨h1, h2⟩, hq⟩ := hq
      obtain ⟨a1, a2⟩ := numA_facts ha
      refine (rb_lift (B' := B) (r := .e (.agg (ofM B.ms k).cells)) (ex := []) (rest0 := [.d (.int .i64 k)]) hl h1 ?_ ?_ rfl (CallsA.re ((of78 B.L B.L.es.length (pkG B.L.es) B.ms B.now B.id B.tmo k h2).mono ?_))).mono ?_
      · intro ms; simp only [renFr, a1]
      · simp only [List.map_cons, List.map_nil, a2]
      · rintro r H' ⟨rfl, rfl⟩
        refine Re.ren [some 0, some 1, none, none, some 2, some 3] rfl rfl rfl (.refl ⟨_, rfl, rfl, rfl⟩)
      · rintro r H' ⟨rfl, rfl⟩
        rw [List.map_nil, List.append_nil, agg_by]
        exact hq
    · exact hq.elim
  · exact hq.elim

end Go.Proofs.Ythckkoledhjmeaa.Ev
