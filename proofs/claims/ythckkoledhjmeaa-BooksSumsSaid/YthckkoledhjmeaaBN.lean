/-
  Books in plain words: what is on its way, and what the accounts tell of it.
-/
import Derived.Test.YthckkoledhjmeaaBL
namespace Go.Proofs.Ythckkoledhjmeaa.Ev
open Go

def cntP : List Pkt → Int → Int
  | [], _ => 0
  | p :: es, k => (if p.mi = k then 1 else 0) + cntP es k

def sumP : List Pkt → Int → Int
  | [], _ => 0
  | p :: es, k => (if p.mi = k then p.size else 0) + sumP es k

theorem cntP_app (k : Int) : ∀ (a b : List Pkt), cntP (a ++ b) k = cntP a k + cntP b k
  | [], b => by simp [cntP]
  | p :: a, b => by simp only [List.cons_append, cntP, cntP_app k a b]; omega

theorem sumP_app (k : Int) : ∀ (a b : List Pkt), sumP (a ++ b) k = sumP a k + sumP b k
  | [], b => by simp [sumP]
  | p :: a, b => by simp only [List.cons_append, sumP, sumP_app k a b]; omega

theorem cntP_split (q : Pkt → Bool) (k : Int) : ∀ es : List Pkt, cntP es k = cntP (es.filter q ++ es.filter fun p => !q p) k
  | [] => rfl
  | p :: es => by
    have ih := cntP_split q k es
    rw [cntP_app] at ih ⊢
    cases h : q p <;> simp only [List.filter_cons, h, Bool.not_true, Bool.not_false, if_true, Bool.false_eq_true, if_false, cntP] <;> omega

theorem sumP_split (q : Pkt → Bool) (k : Int) : ∀ es : List Pkt, sumP es k = sumP (es.filter q ++ es.filter fun p => !q p) k
  | [] => rfl
  | p :: es => by
    have ih := sumP_split q k es
    rw [sumP_app] at ih ⊢
    cases h : q p <;> simp only [List.filter_cons, h, Bool.not_true, Bool.not_false, if_true, Bool.false_eq_true, if_false, sumP] <;> omega

theorem take_split (s k : Int) : ∀ {es : List Pkt}, hasP es s = true → cntP (findP es s :: delP es s) k = cntP es k ∧ sumP (findP es s :: delP es s) k = sumP es k ∧ findP es s ∈ es
  | [], h => by cases h
  | p :: es, h => by
    by_cases hp : s = p.seq
    · have h1 : findP (p :: es) s = p := by simp [findP, hp]
      have h2 : delP (p :: es) s = es := by simp [delP, hp]
      rw [h1, h2]
      exact ⟨rfl, rfl, List.mem_cons_self ..⟩
    · have h0 : (s == p.seq) = false := by simpa using hp
      have h1 : findP (p :: es) s = findP es s := by simp [findP, h0]
      have h2 : delP (p :: es) s = p :: delP es s := by simp [delP, h0]
      have h3 : hasP es s = true := by simpa [hasP, h0] using h
      obtain ⟨a, b, c⟩ := take_split s k h3
      rw [h1, h2]
      simp only [cntP, sumP] at a b ⊢
      exact ⟨by omega, by omega, List.mem_cons_of_mem _ c⟩

def SizesOk (es : List Pkt) : Prop := ∀ p ∈ es, 1 ≤ p.size ∧ p.size ≤ 9000

theorem cnt_sum (k : Int) : ∀ {es : List Pkt}, SizesOk es → 0 ≤ cntP es k ∧ cntP es k ≤ sumP es k ∧ sumP es k ≤ 9000 * cntP es k
  | [], _ => by simp [cntP, sumP]
  | p :: es, h => by
    have ih := cnt_sum k (es := es) fun q hq => h q (List.mem_cons_of_mem _ hq)
    have hp := h p (List.mem_cons_self ..)
    simp only [cntP, sumP]
    split <;> omega

theorem cnt_none {k : Int} : ∀ {es : List Pkt}, (∀ p ∈ es, p.mi ≠ k) → cntP es k = 0 ∧ sumP es k = 0
  | [], _ => ⟨rfl, rfl⟩
  | p :: es, h => by
    have ih := cnt_none (k := k) (es := es) fun q hq => h q (List.mem_cons_of_mem _ hq)
    have hp := h p (List.mem_cons_self ..)
    simp only [cntP, sumP, if_neg hp]
    omega

theorem cnt_zero {k : Int} : ∀ {es : List Pkt}, SizesOk es → cntP es k = 0 → ∀ p ∈ es, p.mi ≠ k
  | [], _, _ => by simp
  | p :: es, h, hc => by
    have h' : SizesOk es := fun q hq => h q (List.mem_cons_of_mem _ hq)
    have := cnt_sum k h'
    simp only [cntP] at hc
    intro q hq
    rcases List.mem_cons.1 hq with rfl | hq
    · intro e
      rw [if_pos e] at hc
      omega
    · refine cnt_zero h' ?_ q hq
      split at hc <;> omega

/-! ### Accounts in a row -/

def putM (ms : List Mi) (m : Mi) : List Mi := ms.map fun x => if x.id = m.id then m else x
def ofM (ms : List Mi) (k : Int) : Mi := (ms.find? fun x => x.id == k).getD Mi.zero
def Ids (ms : List Mi) (id : Int) : Prop := ∀ j, j < ms.length → (ms.getD j Mi.zero).id = id - ms.length + j

theorem getD_lt {ms : List Mi} {j : Nat} (h : j < ms.length) : ms.getD j Mi.zero = ms[j] := by
  rw [List.getD_eq_getElem?_getD, List.getElem?_eq_getElem h]; rfl

theorem getD_mem {ms : List Mi} {j : Nat} (h : j < ms.length) : ms.getD j Mi.zero ∈ ms := by
  rw [getD_lt h]; exact List.getElem_mem h

theorem putM_len (ms : List Mi) (m : Mi) : (putM ms m).length = ms.length := by simp [putM]

theorem putM_get {ms : List Mi} {m : Mi} {j : Nat} (h : j < ms.length) : (putM ms m).getD j Mi.zero = if (ms.getD j Mi.zero).id = m.id then m else ms.getD j Mi.zero := by
  rw [getD_lt (by rw [putM_len]; exact h), getD_lt h]
  simp [putM]

theorem putM_set {ms : List Mi} {id : Int} (hI : Ids ms id) {j : Nat} (h : j < ms.length) {m : Mi} (hm : m.id = (ms.getD j Mi.zero).id) : putM ms m = ms.set j m := by
  apply List.ext_getElem
  · simp [putM]
  · intro i h1 h2
    have hi : i < ms.length := by rw [putM_len] at h1; exact h1
    have e1 := hI i hi
    have e2 := hI j h
    rw [← getD_lt h1, putM_get hi, List.getElem_set]
    split
    · rename_i e
      have : i = j := by omega
      rw [if_pos this.symm]
    · rename_i e
      have : ¬ j = i := by intro e3; subst e3; exact e (by omega)
      rw [if_neg this, getD_lt hi]

theorem ofM_get {ms : List Mi} {id : Int} (hI : Ids ms id) {j : Nat} (h : j < ms.length) : ofM ms (id - ms.length + j) = ms.getD j Mi.zero := by
  unfold ofM
  have : ms.find? (fun x => x.id == id - ms.length + j) = some (ms.getD j Mi.zero) := by
    rw [List.find?_eq_some_iff_getElem]
    refine ⟨by simpa using hI j h, j, h, (getD_lt h).symm, fun i hi => ?_⟩
    have e1 := hI i (by omega)
    rw [← getD_lt (by omega), e1]
    simp only [Bool.not_eq_true', beq_eq_false_iff_ne, ne_eq]
    omega
  rw [this]; rfl

/-- The accounts `ms` (the next one is `id`) tell of the packets `es`, now. -/
structure Acc (es : List Pkt) (ms : List Mi) (id now : Int) : Prop where
  tm : 0 ≤ now ∧ now ≤ 1099511627776
  pk : ∀ p ∈ es, 1 ≤ p.size ∧ p.size ≤ 9000 ∧ 0 ≤ p.sent ∧ p.sent ≤ now
  ids : Ids ms id
  len : ms.length ≤ 64
  idn : (ms.length : Int) ≤ id
  is : ∀ j, j < ms.length → (ms.getD j Mi.zero).Is ∧ (ms.getD j Mi.zero).frm ≤ now
  shut : ∀ j, j < ms.length → ((ms.getD j Mi.zero).to = -1 ↔ j + 1 = ms.length)
  mem : ∀ p ∈ es, id - ms.length ≤ p.mi ∧ p.mi < id
  cnt : ∀ j, j < ms.length → cntP es (ms.getD j Mi.zero).id = (ms.getD j Mi.zero).packets - (ms.getD j Mi.zero).hits - (ms.getD j Mi.zero).drops
  sum : ∀ j, j < ms.length → sumP es (ms.getD j Mi.zero).id = (ms.getD j Mi.zero).sent - (ms.getD j Mi.zero).acked - (ms.getD j Mi.zero).lost

section
variable {es : List Pkt} {ms : List Mi} {id now : Int}

theorem Acc.sizes (h : Acc es ms id now) : SizesOk es := fun p hp => ⟨(h.pk p hp).1, (h.pk p hp).2.1⟩

theorem Acc.perm (h : Acc es ms id now) {es' : List Pkt} (hm : ∀ p ∈ es', p ∈ es) (h1 : ∀ k, cntP es' k = cntP es k) (h2 : ∀ k, sumP es' k = sumP es k) : Acc es' ms id now where
  tm := h.tm
  pk p hp := h.pk p (hm p hp)
  ids := h.ids
  len := h.len
  idn := h.idn
  is := h.is
  shut := h.shut
  mem p hp := h.mem p (hm p hp)
  cnt j hj := by rw [h1]; exact h.cnt j hj
  sum j hj := by rw [h2]; exact h.sum j hj

theorem Acc.later (h : Acc es ms id now) {at' : Int} (h1 : now ≤ at') (h2 : at' ≤ 1099511627776) : Acc es ms id at' where
  tm := ⟨Int.le_trans h.tm.1 h1, h2⟩
  pk p hp := ⟨(h.pk p hp).1, (h.pk p hp).2.1, (h.pk p hp).2.2.1, Int.le_trans (h.pk p hp).2.2.2 h1⟩
  ids := h.ids
  len := h.len
  idn := h.idn
  is j hj := ⟨(h.is j hj).1, Int.le_trans (h.is j hj).2 h1⟩
  shut := h.shut
  mem := h.mem
  cnt := h.cnt
  sum := h.sum

/-- A packet's account. -/
theorem Acc.index (h : Acc es ms id now) {p : Pkt} (hp : p ∈ es) : ∃ j, j < ms.length ∧ p.mi = id - ms.length + j ∧ (ms.getD j Mi.zero).id = p.mi ∧ ofM ms p.mi = ms.getD j Mi.zero := by
  have hm := h.mem p hp
  refine ⟨(p.mi - (id - ms.length)).toNat, by omega, by omega, ?_, ?_⟩
  · rw [h.ids _ (by omega)]; omega
  · rw [← ofM_get h.ids (j := (p.mi - (id - ms.length)).toNat) (by omega)]
    congr 1
    omega

/-- An account in place of one of the same Id. -/
theorem Acc.put (h : Acc es ms id now) {es' : List Pkt} {j : Nat} (hj : j < ms.length) {m' : Mi} (hid : m'.id = (ms.getD j Mi.zero).id) (hto : m'.to = (ms.getD j Mi.zero).to) (hfrm : m'.frm = (ms.getD j Mi.zero).frm)
    (his : m'.Is) (hpk : ∀ p ∈ es', 1 ≤ p.size ∧ p.size ≤ 9000 ∧ 0 ≤ p.sent ∧ p.sent ≤ now) (hmem : ∀ p ∈ es', id - ms.length ≤ p.mi ∧ p.mi < id)
    (h1 : ∀ k, k ≠ m'.id → cntP es' k = cntP es k ∧ sumP es' k = sumP es k)
    (h2 : cntP es' m'.id = m'.packets - m'.hits - m'.drops ∧ sumP es' m'.id = m'.sent - m'.acked - m'.lost) : Acc es' (putM ms m') id now where
  tm := h.tm
  pk := hpk
  ids i hi := by
    rw [putM_len] at hi ⊢
    rw [putM_get hi]
    split
    · rename_i e; rw [← e, h.ids i hi]
    · exact h.ids i hi
  len := by rw [putM_len]; exact h.len
  idn := by rw [putM_len]; exact h.idn
  is i hi := by
    rw [putM_len] at hi
    rw [putM_get hi]
    split
    · exact ⟨his, by rw [hfrm]; exact (h.is j hj).2⟩
    · exact h.is i hi
  shut i hi := by
    rw [putM_len] at hi ⊢
    rw [putM_get hi]
    split
    · rename_i e
      have : i = j := by
        have e1 := h.ids i hi
        have e2 := h.ids j hj
        omega
      subst this
      rw [hto]
      exact h.shut i hi
    · exact h.shut i hi
  mem := by rw [putM_len]; exact hmem
  cnt i hi := by
    rw [putM_len] at hi
    rw [putM_get hi]
    split
    · exact h2.1
    · rename_i e; rw [(h1 _ e).1]; exact h.cnt i hi
  sum i hi := by
    rw [putM_len] at hi
    rw [putM_get hi]
    split
    · exact h2.2
    · rename_i e; rw [(h1 _ e).2]; exact h.sum i hi

end

theorem lose_is {m : Mi} (h : m.Is) {n c s : Int} (hn : 1 ≤ n ∧ n ≤ 9000) (h1 : 1 + c = m.packets - m.hits - m.drops) (h2 : n + s = m.sent - m.acked - m.lost) (h3 : 0 ≤ c ∧ c ≤ s ∧ s ≤ 9000 * c) : (loseM m n).Is := by
  obtain ⟨a, b, c', d, e⟩ := h
  refine ⟨a, ?_, ?_, d, e⟩
  · unfold Mi.CntP loseM at *; simp only; omega
  · unfold Mi.BytP Mi.CntP loseM at *
    simp only
    refine ⟨by omega, by omega, by omega, by omega, by omega, by omega, by omega, ?_⟩
    constructor <;> intro _ <;> omega

theorem ack_is {m : Mi} (h : m.Is) {n sent at' c s : Int} (hn : 1 ≤ n ∧ n ≤ 9000) (h1 : 1 + c = m.packets - m.hits - m.drops) (h2 : n + s = m.sent - m.acked - m.lost) (h3 : 0 ≤ c ∧ c ≤ s ∧ s ≤ 9000 * c) (ha : sent ≤ at') : (ackM m n sent at').Is := by
  obtain ⟨a, b, c', d, e⟩ := h
  unfold ackM
  split
  · rename_i hs
    have p1 := mul60 (a := sent - m.frm) (b := sent - m.frm) (by omega) (by omega) (by omega) (by omega)
    have p2 := mul60 (a := sent - m.frm) (b := at' - sent) (by omega) (by omega) (by omega) (by omega)
    have p3 := mul60 (a := at' - sent) (b := at' - sent) (by omega) (by omega) (by omega) (by omega)
    refine ⟨a, ?_, ?_, ?_, ?_⟩
    · unfold Mi.CntP at *; simp only; omega
    · unfold Mi.BytP Mi.CntP at *
      simp only
      refine ⟨by omega, by omega, by omega, by omega, by omega, by omega, by omega, ?_⟩
      constructor <;> intro _ <;> omega
    · unfold Mi.NumP at *; simp only; omega
    · unfold Mi.SumP at *; simp only; omega
  · refine ⟨a, ?_, ?_, ?_, e⟩
    · unfold Mi.CntP at *; simp only; omega
    · unfold Mi.BytP Mi.CntP at *
      simp only
      refine ⟨by omega, by omega, by omega, by omega, by omega, by omega, by omega, ?_⟩
      constructor <;> intro _ <;> omega
    · unfold Mi.NumP at *; simp only; omega

section
variable {es : List Pkt} {ms : List Mi} {id now : Int}

theorem Acc.lose {p : Pkt} (h : Acc (p :: es) ms id now) : loseE (ofM ms p.mi) p.size = 0 ∧ Acc es (putM ms (loseM (ofM ms p.mi) p.size)) id now := by
  obtain ⟨j, hj, e1, e2, e3⟩ := h.index (List.mem_cons_self ..)
  have hp := h.pk p (List.mem_cons_self ..)
  have his := h.is j hj
  have hc := h.cnt j hj
  have hs := h.sum j hj
  rw [e2] at hc hs
  simp only [cntP, sumP, if_true] at hc hs
  have hz : SizesOk es := fun q hq => h.sizes q (List.mem_cons_of_mem _ hq)
  rw [e3]
  generalize hm : ms.getD j Mi.zero = m at *
  have hI := lose_is his.1 ⟨hp.1, hp.2.1⟩ hc hs (cnt_sum p.mi hz)
  refine ⟨?_, ?_⟩
  · unfold loseE
    rw [if_neg (by simpa using his.1), if_neg (by simpa [SizeP] using ⟨hp.1, hp.2.1⟩), if_neg (by simpa using hI)]
  · subst hm
    refine h.put hj rfl rfl rfl hI (fun q hq => h.pk q (List.mem_cons_of_mem _ hq)) (fun q hq => h.mem q (List.mem_cons_of_mem _ hq)) (fun k hk => ?_) ?_
    · have hk' : ¬ p.mi = k := by
        intro e; apply hk; show k = _; simp only [loseM]; omega
      simp only [cntP, sumP, if_neg hk']
      omega
    · simp only [loseM, e2]
      omega

theorem Acc.ack {p : Pkt} (h : Acc (p :: es) ms id now) : ackE (ofM ms p.mi) p.size p.sent now = 0 ∧ Acc es (putM ms (ackM (ofM ms p.mi) p.size p.sent now)) id now := by
  obtain ⟨j, hj, e1, e2, e3⟩ := h.index (List.mem_cons_self ..)
  have hp := h.pk p (List.mem_cons_self ..)
  have his := h.is j hj
  have hc := h.cnt j hj
  have hs := h.sum j hj
  have hnow := h.tm
  rw [e2] at hc hs
  simp only [cntP, sumP, if_true] at hc hs
  have hz : SizesOk es := fun q hq => h.sizes q (List.mem_cons_of_mem _ hq)
  rw [e3]
  have hI := ack_is his.1 (at' := now) ⟨hp.1, hp.2.1⟩ hc hs (cnt_sum p.mi hz) hp.2.2.2
  have hf : (ackM (ms.getD j Mi.zero) p.size p.sent now).id = (ms.getD j Mi.zero).id ∧ (ackM (ms.getD j Mi.zero) p.size p.sent now).to = (ms.getD j Mi.zero).to ∧ (ackM (ms.getD j Mi.zero) p.size p.sent now).frm = (ms.getD j Mi.zero).frm ∧
      (ackM (ms.getD j Mi.zero) p.size p.sent now).packets = (ms.getD j Mi.zero).packets ∧ (ackM (ms.getD j Mi.zero) p.size p.sent now).hits = (ms.getD j Mi.zero).hits + 1 ∧ (ackM (ms.getD j Mi.zero) p.size p.sent now).drops = (ms.getD j Mi.zero).drops ∧
      (ackM (ms.getD j Mi.zero) p.size p.sent now).sent = (ms.getD j Mi.zero).sent ∧ (ackM (ms.getD j Mi.zero) p.size p.sent now).acked = (ms.getD j Mi.zero).acked + p.size ∧ (ackM (ms.getD j Mi.zero) p.size p.sent now).lost = (ms.getD j Mi.zero).lost := by
    unfold ackM; split <;> exact ⟨rfl, rfl, rfl, rfl, rfl, rfl, rfl, rfl, rfl⟩
  refine ⟨?_, ?_⟩
  · unfold ackE
    rw [if_neg (by simpa using his.1), if_neg (by simpa [SizeP] using ⟨hp.1, hp.2.1⟩), if_neg (by unfold TimeP; omega), if_neg (by unfold TimeP; omega), if_neg (by omega), if_neg (by simpa using hI)]
  · refine h.put hj hf.1 hf.2.1 hf.2.2.1 hI (fun q hq => h.pk q (List.mem_cons_of_mem _ hq)) (fun q hq => h.mem q (List.mem_cons_of_mem _ hq)) (fun k hk => ?_) ?_
    · have hk' : ¬ p.mi = k := by
        intro e; apply hk; rw [hf.1]; omega
      simp only [cntP, sumP, if_neg hk']
      omega
    · rw [hf.1, e2]
      omega

end

end Go.Proofs.Ythckkoledhjmeaa.Ev
