/-
  A tally in plain words: while packets expire; what a step makes of books.
-/
import Derived.Test.YthckkoledhjmeaaCL
namespace Go.Proofs.Ythckkoledhjmeaa.Ev
open Go

/-- What a step makes of books. -/
def doB (B : BSt) (a b c d : Int) : BSt :=
  if a = 0 then begB B c else if a = 1 then sbB B b c else if a = 2 then akB B d c else if a = 3 then loB B d c else if a = 4 then exB B c else tkB B

theorem BSt.Ok.does {B : BSt} (h : B.Ok) (a b c d : Int) : (doB B a b c d).Ok := by
  unfold doB
  split
  · exact h.begin _
  split
  · exact h.send _ _
  split
  · exact h.ack _ _
  split
  · exact h.lose _ _
  split
  · exact h.expire _
  · exact h.take

theorem keepS (L : LSt) (a b c : Int) : (sendL L a b c).room = L.room ∧ (sendL L a b c).first = L.first := by unfold sendL; split <;> exact ⟨rfl, rfl⟩
theorem keepTk (L : LSt) (a : Int) : (takeL L a).room = L.room ∧ (takeL L a).first = L.first := by unfold takeL; split <;> exact ⟨rfl, rfl⟩

theorem do_keep (B : BSt) (a b c d : Int) : (doB B a b c d).L.first = B.L.first ∧ (doB B a b c d).id ≤ B.id + 1 := by
  unfold doB
  split
  · unfold begB; split
    · exact ⟨rfl, Int.le_refl _⟩
    · exact ⟨rfl, by omega⟩
  split
  · unfold sbB; split
    · exact ⟨(keepS _ _ _ _).2, by show B.id ≤ _; omega⟩
    · exact ⟨rfl, by omega⟩
  split
  · unfold akB; split
    · exact ⟨(keepTk _ _).2, by show B.id ≤ _; omega⟩
    · exact ⟨rfl, by omega⟩
  split
  · unfold loB; split
    · exact ⟨(keepTk _ _).2, by show B.id ≤ _; omega⟩
    · exact ⟨rfl, by omega⟩
  split
  · unfold exB; split
    · exact ⟨rfl, by omega⟩
    · exact ⟨rfl, by show B.id ≤ _; omega⟩
  · unfold tkB; split
    · exact ⟨rfl, by show B.id ≤ _; omega⟩
    · exact ⟨rfl, by omega⟩

theorem findP_seq {es : List Pkt} {s : Int} (h : hasP es s = true) : (findP es s).seq = s := by
  unfold findP
  unfold hasP at h
  rw [List.any_eq_true] at h
  obtain ⟨p, hp, hs⟩ := h
  cases hf : es.find? fun p => s == p.seq with
  | none =>
    have := List.find?_eq_none.1 hf p hp
    exact absurd hs this
  | some q =>
    have := List.find?_some hf
    simp only [Option.getD_some]
    exact (by simpa using this : s = q.seq).symm

/-- What expires, and what is left. -/
structure ExpF (B S : BSt) (l : List Pkt) (now' : Int) : Prop where
  acc : Acc (l ++ S.L.es) B.ms B.id now'
  ms : S.ms = l.foldl losM B.ms
  id : S.id = B.id
  mem : ∀ p ∈ l, p ∈ B.L.es
  left : ∀ p ∈ S.L.es, p ∈ B.L.es
  next : S.L.next = B.L.next
  first : S.L.first = B.L.first
  len : l.length ≤ B.L.es.length

theorem exp_facts {B : BSt} (hB : B.Ok) (at' : Int) : ∃ now', ExpF B (exB B at') (exP B at') now' := by
  by_cases he : earlyB B at'
  · refine ⟨B.now, ?_⟩
    have e1 : exP B at' = [] := by rw [exP, if_pos he]
    have e2 : exB B at' = B := by rw [exB, if_pos he]
    rw [e1, e2]
    exact ⟨hB.acc, rfl, rfl, fun p hp => (by cases hp), fun p hp => hp, rfl, rfl, Nat.zero_le _⟩
  · refine ⟨at', ?_⟩
    have h5 := not_early he
    have e1 : exP B at' = expP B.L at' B.tmo := by rw [exP, if_neg he]
    have e2 : exB B at' = ⟨expL B.L at' B.tmo, at', (expP B.L at' B.tmo).foldl losM B.ms, B.id, B.tmo⟩ := by rw [exB, if_neg he]
    rw [e1, e2]
    exact ⟨(hB.acc.later h5.1 h5.2).exp (overX at' B.tmo), rfl, rfl, fun p hp => (List.mem_filter.1 hp).1, fun p hp => (List.mem_filter.1 hp).1, rfl, rfl, List.length_filter_le _ _⟩

structure LpI (T : TSt) (B S : BSt) (l : List Pkt) (now' : Int) (j : Nat) (all : List Mi) : Prop where
  le : j ≤ l.length
  len : all.length = T.all.length
  row : TRow all T.taken ((l.take j).foldl losM B.ms) B.id
  acc : Acc (l.drop j ++ S.L.es) ((l.take j).foldl losM B.ms) B.id now'

section
variable {T : TSt} {B S : BSt} {l : List Pkt} {now' : Int} {j : Nat} {all : List Mi}

theorem LpI.zero (h : ExpF B S l now') (hT : TInv T B) : LpI T B S l now' 0 T.all := ⟨Nat.zero_le _, rfl, hT.r, h.acc⟩

theorem drop_get (h : j < l.length) : l.drop j = l.getD j Pkt.zero :: l.drop (j + 1) := by
  rw [List.drop_eq_getElem_cons h, List.getD_eq_getElem?_getD, List.getElem?_eq_getElem h]
  rfl

theorem take_get (h : j < l.length) : l.take (j + 1) = l.take j ++ [l.getD j Pkt.zero] := by
  rw [List.take_add_one, List.getD_eq_getElem?_getD, List.getElem?_eq_getElem h]
  rfl

theorem mem_get (h : j < l.length) : l.getD j Pkt.zero ∈ l := by
  rw [List.getD_eq_getElem?_getD, List.getElem?_eq_getElem h]
  exact List.getElem_mem h

theorem LpI.next (h : LpI T B S l now' j all) (hj : j < l.length) : (0 ≤ (l.getD j Pkt.zero).mi ∧ (l.getD j Pkt.zero).mi < all.length) ∧ loseE (all.getD (l.getD j Pkt.zero).mi.toNat Mi.zero) (l.getD j Pkt.zero).size = 0 ∧
    LpI T B S l now' (j + 1) (all.set (l.getD j Pkt.zero).mi.toNat (loseM (all.getD (l.getD j Pkt.zero).mi.toNat Mi.zero) (l.getD j Pkt.zero).size)) := by
  have ha := h.acc
  rw [drop_get hj] at ha
  obtain ⟨a1, a2, a3⟩ := h.row.at ha
  have hl := ha.lose
  refine ⟨⟨a1, a2⟩, by rw [a3]; exact hl.1, by omega, by rw [List.length_set]; exact h.len, ?_, ?_⟩
  · rw [take_get hj, List.foldl_append]
    exact h.row.lose ha
  · rw [take_get hj, List.foldl_append]
    exact hl.2

theorem losM_len : ∀ (ps : List Pkt) (ms : List Mi), (ps.foldl losM ms).length = ms.length
  | [], _ => rfl
  | p :: ps, ms => by rw [List.foldl_cons, losM_len ps]; exact putM_len _ _

theorem LpI.done (h : LpI T B S l now' l.length all) (hE : ExpF B S l now') (hT : TInv T B) : TInv ⟨all, T.taken, T.fo, T.tt, T.sz⟩ S := by
  have hr := h.row
  rw [List.take_length, ← hE.ms, ← hE.id] at hr
  refine ⟨hr, by rw [hE.next, hE.first]; exact hT.fo, hT.tt, hT.sz, fun p hp => ?_, fun hi => ?_⟩
  · rw [hE.first]; exact hT.pk p (hE.left p hp)
  · rw [hE.ms, losM_len]
    rw [hE.id] at hi
    exact hT.last hi

end

/-- A packet's number, less the first one. -/
theorem TInv.num {T : TSt} {B : BSt} (hT : TInv T B) (hk : T.fo.length < 1000000) {p : Pkt} (hp : p ∈ B.L.es) : ∃ j, j < T.fo.length ∧ IntKind.u64.wrap (p.seq - B.L.first) = j ∧ T.fo.getD j 0 = p.mi ∧ T.tt.getD j 0 = p.sent ∧ T.sz.getD j 0 = p.size := by
  obtain ⟨j, h1, h2, h3⟩ := hT.pk p hp
  refine ⟨j, h1, ?_, h3⟩
  rw [h2, IntKind.wrap_u64]
  omega

end Go.Proofs.Ythckkoledhjmeaa.Ev
