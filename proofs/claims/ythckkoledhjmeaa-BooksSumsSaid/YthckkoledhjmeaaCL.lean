/-
  Books in plain words: what is left once all has expired, and what is taken then; a tally of what was sent.
-/
import Derived.Test.YthckkoledhjmeaaBO
namespace Go.Proofs.Ythckkoledhjmeaa.Ev
open Go

section
variable {B : BSt}

theorem exp_all (h : B.Ok) (he : ¬ earlyB B (B.now + B.tmo)) : (exB B (B.now + B.tmo)).L.es = [] := by
  unfold exB
  rw [if_neg he]
  show (B.L.es.filter fun p => !overX (B.now + B.tmo) B.tmo p) = []
  rw [List.filter_eq_nil_iff]
  intro p hp
  have := (h.acc.pk p hp).2.2.2
  have hx : overX (B.now + B.tmo) B.tmo p = true := by
    unfold overX
    rw [decide_eq_true_eq]
    omega
  rw [hx]
  decide

/-- With nothing on its way an interval that is not the last one is over. -/
structure First (B : BSt) (m : Mi) : Prop where
  done : m.DoneP
  id : m.id = B.id - B.ms.length
  cnt : IntKind.i64.wrap (m.hits + m.drops) = m.packets
  sum : IntKind.i64.wrap (m.acked + m.lost) = m.sent

theorem first_done (h : B.Ok) (he : B.L.es = []) (hn : 2 ≤ B.ms.length) : First B (B.ms.getD 0 Mi.zero) := by
  have h0 : 0 < B.ms.length := by omega
  have his := (h.acc.is 0 h0).1
  have hs := h.acc.shut 0 h0
  have hc := h.acc.cnt 0 h0
  have hm := h.acc.sum 0 h0
  have hi := h.acc.ids 0 h0
  rw [he] at hc hm
  simp only [cntP, sumP] at hc hm
  obtain ⟨_, b, c, _, _⟩ := id his
  unfold Mi.CntP Mi.BytP at *
  refine ⟨⟨his, fun e => ?_, by omega⟩, by rw [hi]; omega, ?_, ?_⟩
  · have := hs.1 e; omega
  · rw [wrap64 (by unfold I64; omega)]; omega
  · rw [wrap64 (by unfold I64; omega)]; omega

theorem first_tk (h : B.Ok) (he : B.L.es = []) (hn : 2 ≤ B.ms.length) : tkP B := ⟨by omega, (first_done h he hn).done⟩

theorem last_stays (h : B.Ok) (hn : B.ms.length ≤ 1) : ¬ tkP B := by
  rintro ⟨h0, hd⟩
  exact hd.2.1 ((h.acc.shut 0 h0).2 (by omega))

/-! ### A tally -/

structure TSt where
  all : List Mi
  taken : Nat
  fo : List Int
  tt : List Int
  sz : List Int

/-- The accounts of a tally, of which so many were taken. -/
structure TRow (all : List Mi) (taken : Nat) (ms : List Mi) (id : Int) : Prop where
  num : (all.length : Int) = id
  tk : taken ≤ all.length
  row : all.drop taken = ms

structure TInv (T : TSt) (B : BSt) : Prop where
  r : TRow T.all T.taken B.ms B.id
  fo : B.L.next = B.L.first + T.fo.length
  tt : T.tt.length = T.fo.length
  sz : T.sz.length = T.fo.length
  pk : ∀ p ∈ B.L.es, ∃ j, j < T.fo.length ∧ p.seq = B.L.first + j ∧ T.fo.getD j 0 = p.mi ∧ T.tt.getD j 0 = p.sent ∧ T.sz.getD j 0 = p.size
  last : 0 < B.id → 0 < B.ms.length

def newT : TSt := ⟨[], 0, [], [], []⟩

theorem tinv_new (room first tmo : Int) : TInv newT (newB' room first tmo) where
  r := ⟨rfl, Nat.le_refl _, rfl⟩
  fo := by show first = first + ((0 : Nat) : Int); omega
  tt := rfl
  sz := rfl
  pk := fun p hp => by cases hp
  last := fun h => by exact absurd h (by show ¬ (0 : Int) < 0; omega)

theorem drop_set {α : Type} {l : List α} {n i : Nat} {x : α} (h : n ≤ i) : (l.set i x).drop n = (l.drop n).set (i - n) x := by
  apply List.ext_getElem?
  intro j
  simp only [List.getElem?_drop, List.getElem?_set, List.length_drop]
  by_cases e : i = n + j
  · subst e
    have e2 : n + j - n = j := by omega
    rw [if_pos rfl, if_pos e2]
    split <;> split <;> first | rfl | omega
  · rw [if_neg e, if_neg (by omega)]

theorem drop_app {α : Type} {l : List α} {n : Nat} {x : α} (h : n ≤ l.length) : (l ++ [x]).drop n = l.drop n ++ [x] := List.drop_append_of_le_length h

theorem TRow.len {all : List Mi} {taken : Nat} {ms : List Mi} {id : Int} (h : TRow all taken ms id) : ms.length = all.length - taken := by rw [← h.row, List.length_drop]

theorem TRow.get {all : List Mi} {taken : Nat} {ms : List Mi} {id : Int} (h : TRow all taken ms id) (j : Nat) : ms.getD j Mi.zero = all.getD (taken + j) Mi.zero := by
  rw [← h.row, List.getD_eq_getElem?_getD, List.getD_eq_getElem?_getD, List.getElem?_drop]

section
variable {all : List Mi} {taken : Nat} {es : List Pkt} {ms : List Mi} {id now : Int} {p : Pkt}

/-- The account of a packet that is on its way. -/
theorem TRow.at (h : TRow all taken ms id) (hA : Acc (p :: es) ms id now) : 0 ≤ p.mi ∧ p.mi < all.length ∧ all.getD p.mi.toNat Mi.zero = ofM ms p.mi := by
  obtain ⟨j, hj, e1, e2, e3⟩ := hA.index (List.mem_cons_self ..)
  have hl := h.len
  have ha := h.num
  have ht := h.tk
  have : p.mi.toNat = taken + j := by omega
  refine ⟨by omega, by omega, ?_⟩
  rw [e3, h.get, this]

theorem TRow.put (h : TRow all taken ms id) (hA : Acc (p :: es) ms id now) {m : Mi} (hm : m.id = p.mi) : TRow (all.set p.mi.toNat m) taken (putM ms m) id := by
  obtain ⟨j, hj, e1, e2, e3⟩ := hA.index (List.mem_cons_self ..)
  have hl := h.len
  have ha := h.num
  have ht := h.tk
  have e4 : p.mi.toNat = taken + j := by omega
  refine ⟨by rw [List.length_set]; exact ha, by rw [List.length_set]; exact ht, ?_⟩
  rw [e4, drop_set (by omega), h.row, putM_set hA.ids hj (by rw [hm, e2])]
  congr 1
  omega

end

theorem ackM_id (m : Mi) (a b c : Int) : (ackM m a b c).id = m.id := by unfold ackM; split <;> rfl

theorem ofM_id {es : List Pkt} {ms : List Mi} {id now : Int} {p : Pkt} (hA : Acc (p :: es) ms id now) : (ofM ms p.mi).id = p.mi := by
  obtain ⟨j, hj, e1, e2, e3⟩ := hA.index (List.mem_cons_self ..)
  rw [e3, e2]

section
variable {T : TSt}

theorem TInv.empty (h : TInv T B) (hB : B.Ok) (hn : ¬ 0 < B.ms.length) : T.all = [] ∧ B.ms = [] := by
  have h1 := h.r.num
  have h2 := hB.acc.idn
  refine ⟨List.eq_nil_of_length_eq_zero ?_, List.eq_nil_of_length_eq_zero (by omega)⟩
  have : ¬ 0 < B.id := fun e => hn (h.last e)
  omega

/-- The interval that began last. -/
theorem TInv.lastE (h : TInv T B) (hn : 0 < B.ms.length) : T.all.getD (T.all.length - 1) Mi.zero = lastM B.ms ∧ T.taken ≤ T.all.length - 1 ∧ T.all.length - 1 - T.taken = B.ms.length - 1 ∧ 0 < T.all.length := by
  have hl := h.r.len
  have ht := h.r.tk
  have : T.taken + (B.ms.length - 1) = T.all.length - 1 := by omega
  refine ⟨?_, by omega, by omega, by omega⟩
  unfold lastM
  rw [h.r.get, this]

theorem TInv.setLast (h : TInv T B) (hB : B.Ok) (hn : 0 < B.ms.length) {m : Mi} (hm : m.id = (lastM B.ms).id) : (T.all.set (T.all.length - 1) m).drop T.taken = putM B.ms m := by
  obtain ⟨e1, e2, e3, e4⟩ := h.lastE hn
  rw [drop_set e2, h.r.row, e3, putM_set hB.acc.ids (j := B.ms.length - 1) (by omega) hm]

def begT (T : TSt) (B : BSt) (at' : Int) : TSt := ⟨T.all.set (T.all.length - 1) (closeM (lastM B.ms) at') ++ [openM B.id at'], T.taken, T.fo, T.tt, T.sz⟩
def sndT (T : TSt) (B : BSt) (size at' : Int) : TSt := ⟨T.all.set (T.all.length - 1) (sndM (lastM B.ms) size), T.taken, T.fo ++ [((T.all.length - 1 : Nat) : Int)], T.tt ++ [at'], T.sz ++ [size]⟩
def endT (T : TSt) (p : Pkt) (m : Mi) : TSt := ⟨T.all.set p.mi.toNat m, T.taken, T.fo, T.tt, T.sz⟩

theorem TInv.begin (h : TInv T B) (hB : B.Ok) {at' : Int} (hE : begE B at' = 0) : TInv (begT T B at') (begB B at') := by
  have e : begB B at' = ⟨B.L, at', putM B.ms (closeM (lastM B.ms) at') ++ [openM B.id at'], B.id + 1, B.tmo⟩ := by rw [begB, if_pos hE]
  rw [e]
  have ha := h.r.num
  have ht := h.r.tk
  refine ⟨⟨?_, ?_, ?_⟩, h.fo, h.tt, h.sz, h.pk, fun _ => by simp⟩
  · simp only [begT, List.length_append, List.length_set, List.length_singleton]; omega
  · simp only [begT, List.length_append, List.length_set, List.length_singleton]; omega
  · simp only [begT]
    rw [drop_app (by rw [List.length_set]; exact ht)]
    congr 1
    by_cases hn : 0 < B.ms.length
    · exact h.setLast hB hn rfl
    · obtain ⟨e1, e2⟩ := h.empty hB hn
      rw [e1, e2]
      simp [putM]

theorem getD_snoc {l : List Int} {x : Int} {j : Nat} (h : j < l.length) : (l ++ [x]).getD j 0 = l.getD j 0 := by
  rw [List.getD_eq_getElem?_getD, List.getD_eq_getElem?_getD, List.getElem?_append_left h]

theorem getD_snoc' {l : List Int} {x : Int} {j : Nat} (h : j = l.length) : (l ++ [x]).getD j 0 = x := by
  subst h
  rw [List.getD_eq_getElem?_getD, List.getElem?_append_right (Nat.le_refl _), Nat.sub_self]
  rfl

theorem TInv.send (h : TInv T B) (hB : B.Ok) {size at' : Int} (hE : sbE B size at' = 0) : TInv (sndT T B size at') (sbB B size at') := by
  have e : sbB B size at' = ⟨sendL B.L (lastM B.ms).id size at', at', putM B.ms (sndM (lastM B.ms) size), B.id, B.tmo⟩ := by rw [sbB, if_pos hE]
  obtain ⟨h1, h2, h3, h4⟩ := sbE_zero hE
  have hL : sendL B.L (lastM B.ms).id size at' = ⟨B.L.room, B.L.first, B.L.next + 1, at', B.L.es ++ [⟨B.L.next, (lastM B.ms).id, size, at'⟩]⟩ := by rw [sendL, if_pos h4]
  rw [e, hL]
  have ha := h.r.num
  have ht := h.r.tk
  have hf := h.fo
  have h5 := h.tt
  have h6 := h.sz
  obtain ⟨f1, f2, f3, f4⟩ := lastM_facts hB.acc h2
  obtain ⟨g1, g2, g3, g4⟩ := h.lastE h2
  refine ⟨⟨?_, ?_, ?_⟩, ?_, ?_, ?_, ?_, fun _ => by rw [putM_len]; exact h2⟩
  · simp only [sndT, List.length_set]; exact ha
  · simp only [sndT, List.length_set]; exact ht
  · exact h.setLast hB h2 rfl
  · simp only [sndT, List.length_append, List.length_singleton]; omega
  · simp only [sndT, List.length_append, List.length_singleton]; omega
  · simp only [sndT, List.length_append, List.length_singleton]; omega
  · intro p hp
    simp only [sndT, List.length_append, List.length_singleton]
    rcases List.mem_append.1 hp with hp | hp
    · obtain ⟨j, k1, k2, k3, k4, k5⟩ := h.pk p hp
      exact ⟨j, by omega, k2, by rw [getD_snoc k1]; exact k3, by rw [getD_snoc (by omega)]; exact k4, by rw [getD_snoc (by omega)]; exact k5⟩
    · rw [List.mem_singleton.1 hp]
      refine ⟨T.fo.length, by omega, hf, ?_, by rw [getD_snoc' h5.symm], by rw [getD_snoc' h6.symm]⟩
      rw [getD_snoc' rfl]
      show _ = (lastM B.ms).id
      omega

theorem takeL_es {L : LSt} {seq : Int} (h : takeE L seq = 0) : takeL L seq = ⟨L.room, L.first, L.next, L.last, delP L.es seq⟩ := by rw [takeL, if_pos h]

theorem TInv.ended (h : TInv T B) (hB : B.Ok) {seq at' : Int} (hE : enE B seq at' = 0) {m : Mi} (hm : m.id = (findP B.L.es seq).mi) {now : Int} :
    TInv (endT T (findP B.L.es seq) m) ⟨takeL B.L seq, now, putM B.ms m, B.id, B.tmo⟩ := by
  obtain ⟨h1, h2, h3⟩ := enE_zero hE
  have hA := hB.acc.split h3
  rw [takeL_es h2]
  refine ⟨h.r.put hA hm, h.fo, h.tt, h.sz, fun p hp => h.pk p (List.mem_of_mem_eraseP hp), fun hi => by rw [putM_len]; exact h.last hi⟩

theorem TInv.take (h : TInv T B) (hB : B.Ok) (hk : tkP B) : TInv ⟨T.all, T.taken + 1, T.fo, T.tt, T.sz⟩ ⟨B.L, B.now, B.ms.tail, B.id, B.tmo⟩ := by
  have hl := h.r.len
  have ht := h.r.tk
  have hk0 := hk.1
  have hlast : 2 ≤ B.ms.length := by
    by_cases h2 : 2 ≤ B.ms.length
    · exact h2
    · exact absurd hk (last_stays hB (by omega))
  refine ⟨⟨h.r.num, by show T.taken + 1 ≤ T.all.length; omega, ?_⟩, h.fo, h.tt, h.sz, h.pk, fun _ => by rw [List.length_tail]; omega⟩
  rw [← h.r.row, List.tail_drop]

/-- A tally while packets expire: so many accounts have lost theirs. -/
theorem TRow.lose {all : List Mi} {taken : Nat} {es : List Pkt} {ms : List Mi} {id now : Int} {p : Pkt} (h : TRow all taken ms id) (hA : Acc (p :: es) ms id now) : TRow (all.set p.mi.toNat (loseM (all.getD p.mi.toNat Mi.zero) p.size)) taken (losM ms p) id := by
  rw [(h.at hA).2.2]
  exact h.put hA (ofM_id hA)

end

end

end Go.Proofs.Ythckkoledhjmeaa.Ev
