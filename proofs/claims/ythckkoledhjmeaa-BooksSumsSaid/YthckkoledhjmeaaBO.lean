/-
  Books in plain words: what they do, and that they stay right.
-/
import Derived.Test.YthckkoledhjmeaaBN
namespace Go.Proofs.Ythckkoledhjmeaa.Ev
open Go

structure BSt where
  L : LSt
  now : Int
  ms : List Mi
  id : Int
  tmo : Int

structure BSt.Ok (B : BSt) : Prop where
  led : B.L.Ok
  last : B.L.last ≤ B.now
  tmo : 1 ≤ B.tmo ∧ B.tmo ≤ 60000000
  acc : Acc B.L.es B.ms B.id B.now

def earlyB (B : BSt) (at' : Int) : Prop := at' < B.now ∨ at' > 1099511627776
instance (B : BSt) (at' : Int) : Decidable (earlyB B at') := by unfold earlyB; infer_instance

def lastM (ms : List Mi) : Mi := ms.getD (ms.length - 1) Mi.zero

def begE (B : BSt) (at' : Int) : Int := if earlyB B at' then 10 else if B.ms.length = 64 then 2 else 0
def begB (B : BSt) (at' : Int) : BSt := if begE B at' = 0 then ⟨B.L, at', putM B.ms (closeM (lastM B.ms) at') ++ [openM B.id at'], B.id + 1, B.tmo⟩ else B
def begN (B : BSt) (at' : Int) : Int := if begE B at' = 0 then B.id else 0

def sbE (B : BSt) (size at' : Int) : Int := if earlyB B at' then 10 else if B.ms.length = 0 then 15 else if sndE (lastM B.ms) size = 0 then sendE B.L (lastM B.ms).id size at' else sndE (lastM B.ms) size
def sbB (B : BSt) (size at' : Int) : BSt := if sbE B size at' = 0 then ⟨sendL B.L (lastM B.ms).id size at', at', putM B.ms (sndM (lastM B.ms) size), B.id, B.tmo⟩ else B
def sbN (B : BSt) (size at' : Int) : Int := if sbE B size at' = 0 then B.L.next else 0

def enE (B : BSt) (seq at' : Int) : Int := if earlyB B at' then 10 else takeE B.L seq
def enP (B : BSt) (seq at' : Int) : Pkt := if enE B seq at' = 0 then findP B.L.es seq else Pkt.zero
def akB (B : BSt) (seq at' : Int) : BSt := if enE B seq at' = 0 then ⟨takeL B.L seq, at', putM B.ms (ackM (ofM B.ms (findP B.L.es seq).mi) (findP B.L.es seq).size (findP B.L.es seq).sent at'), B.id, B.tmo⟩ else B
def loB (B : BSt) (seq at' : Int) : BSt := if enE B seq at' = 0 then ⟨takeL B.L seq, at', putM B.ms (loseM (ofM B.ms (findP B.L.es seq).mi) (findP B.L.es seq).size), B.id, B.tmo⟩ else B

def losM (ms : List Mi) (p : Pkt) : List Mi := putM ms (loseM (ofM ms p.mi) p.size)
def exE (B : BSt) (at' : Int) : Int := if earlyB B at' then 10 else 0
def exP (B : BSt) (at' : Int) : List Pkt := if earlyB B at' then [] else expP B.L at' B.tmo
def exB (B : BSt) (at' : Int) : BSt := if earlyB B at' then B else ⟨expL B.L at' B.tmo, at', (expP B.L at' B.tmo).foldl losM B.ms, B.id, B.tmo⟩

def tkP (B : BSt) : Prop := 0 < B.ms.length ∧ (B.ms.getD 0 Mi.zero).DoneP
instance (B : BSt) : Decidable (tkP B) := by unfold tkP; infer_instance
def tkM (B : BSt) : Mi := if tkP B then B.ms.getD 0 Mi.zero else Mi.zero
def tkB (B : BSt) : BSt := if tkP B then ⟨B.L, B.now, B.ms.tail, B.id, B.tmo⟩ else B

section
variable {B : BSt}

theorem not_early {at' : Int} (h : ¬ earlyB B at') : B.now ≤ at' ∧ at' ≤ 1099511627776 := by unfold earlyB at h; omega

theorem begE_zero {at' : Int} (h : begE B at' = 0) : ¬ earlyB B at' ∧ B.ms.length ≠ 64 := by
  unfold begE at h
  split at h
  · omega
  · rename_i h1
    split at h
    · omega
    · rename_i h2; exact ⟨h1, h2⟩

theorem lastM_facts {es : List Pkt} {ms : List Mi} {id now : Int} (h : Acc es ms id now) (hn : 0 < ms.length) : (lastM ms).Is ∧ (lastM ms).frm ≤ now ∧ (lastM ms).to = -1 ∧ (lastM ms).id = id - 1 := by
  have h1 := h.is (ms.length - 1) (by omega)
  have h2 := h.shut (ms.length - 1) (by omega)
  have h3 := h.ids (ms.length - 1) (by omega)
  refine ⟨h1.1, h1.2, h2.2 (by omega), ?_⟩
  unfold lastM
  rw [h3]
  omega

theorem closeE_zero {m : Mi} {at' : Int} (h : m.Is) (h1 : m.to = -1) (h2 : m.frm ≤ at') (h3 : 0 ≤ at' ∧ at' ≤ 1099511627776) : closeE m at' = 0 := by
  unfold closeE
  rw [if_neg (by simpa using h), if_neg (by simpa using h1), if_neg (by unfold TimeP; omega), if_neg (by omega)]

theorem close_is {m : Mi} {at' : Int} (h : m.Is) (h2 : m.frm ≤ at') (h3 : 0 ≤ at' ∧ at' ≤ 1099511627776) : (closeM m at').Is := by
  obtain ⟨a, b, c, d, e⟩ := h
  refine ⟨?_, b, c, d, e⟩
  unfold Mi.TimP closeM at *
  simp only
  omega

theorem open_is {id at' : Int} (h : 0 ≤ id) (h3 : 0 ≤ at' ∧ at' ≤ 1099511627776) : (openM id at').Is := by
  refine ⟨?_, ?_, ?_, ?_, ?_⟩ <;> simp [Mi.TimP, Mi.CntP, Mi.BytP, Mi.NumP, Mi.SumP, openM] <;> omega

theorem getD_app {ms : List Mi} {m : Mi} {j : Nat} (h : j < (ms ++ [m]).length) : (ms ++ [m]).getD j Mi.zero = if j < ms.length then ms.getD j Mi.zero else m := by
  rw [List.getD_eq_getElem?_getD, List.getElem?_append]
  split
  · rw [List.getD_eq_getElem?_getD]
  · rename_i h1
    simp only [List.length_append, List.length_singleton] at h
    have : j - ms.length = 0 := by omega
    rw [this]; rfl

theorem Acc.begin {es : List Pkt} {ms : List Mi} {id now at' : Int} (h : Acc es ms id now) (h1 : now ≤ at') (h2 : at' ≤ 1099511627776) (h3 : ms.length ≠ 64) :
    Acc es (putM ms (closeM (lastM ms) at') ++ [openM id at']) (id + 1) at' := by
  have hl := h.later h1 h2
  have ht := h.tm
  have hidn := h.idn
  have hlen := h.len
  have key : ∀ j, j < ms.length → (putM ms (closeM (lastM ms) at')).getD j Mi.zero = if j + 1 = ms.length then closeM (lastM ms) at' else ms.getD j Mi.zero := by
    intro j hj
    rw [putM_get hj]
    have e1 := h.ids j hj
    have e2 := (lastM_facts h (by omega)).2.2.2
    by_cases hk : j + 1 = ms.length
    · rw [if_pos (by show _ = (lastM ms).id; omega), if_pos hk]
    · rw [if_neg (by show ¬ _ = (lastM ms).id; omega), if_neg hk]
  have lastD : ∀ j, j + 1 = ms.length → ms.getD j Mi.zero = lastM ms := by
    intro j hj; unfold lastM; congr 1; omega
  constructor
  · exact ⟨by omega, h2⟩
  · exact hl.pk
  · intro j hj
    rw [getD_app hj]
    simp only [List.length_append, List.length_singleton, putM_len] at hj ⊢
    split
    · rename_i hj'
      rw [key j hj']
      have e1 := h.ids j hj'
      split
      · rename_i hk
        show (lastM ms).id = _
        rw [← lastD j hk, e1]; omega
      · rw [e1]; omega
    · show id = _; omega
  · simp only [List.length_append, List.length_singleton, putM_len]; omega
  · simp only [List.length_append, List.length_singleton, putM_len]; omega
  · intro j hj
    rw [getD_app hj]
    simp only [List.length_append, List.length_singleton, putM_len] at hj ⊢
    split
    · rename_i hj'
      rw [key j hj']
      split
      · obtain ⟨f1, f2, f3, f4⟩ := lastM_facts h (by omega)
        exact ⟨close_is f1 (by omega) ⟨by omega, h2⟩, by show (lastM ms).frm ≤ _; omega⟩
      · exact hl.is j hj'
    · exact ⟨open_is (by omega) ⟨by omega, h2⟩, Int.le_refl _⟩
  · intro j hj
    rw [getD_app hj]
    simp only [List.length_append, List.length_singleton, putM_len] at hj ⊢
    split
    · rename_i hj'
      rw [key j hj']
      split
      · refine ⟨fun e => ?_, fun e => by omega⟩
        have : at' = -1 := e
        omega
      · have := h.shut j hj'
        rw [this]
        omega
    · exact ⟨fun _ => by omega, fun _ => rfl⟩
  · intro p hp
    have := h.mem p hp
    simp only [List.length_append, List.length_singleton, putM_len]
    omega
  · intro j hj
    rw [getD_app hj]
    simp only [List.length_append, List.length_singleton, putM_len] at hj ⊢
    split
    · rename_i hj'
      rw [key j hj']
      split
      · rename_i hk
        have := h.cnt j hj'
        rw [lastD j hk] at this
        exact this
      · exact h.cnt j hj'
    · exact (cnt_none fun p hp => by have := h.mem p hp; show p.mi ≠ id; omega).1
  · intro j hj
    rw [getD_app hj]
    simp only [List.length_append, List.length_singleton, putM_len] at hj ⊢
    split
    · rename_i hj'
      rw [key j hj']
      split
      · rename_i hk
        have := h.sum j hj'
        rw [lastD j hk] at this
        exact this
      · exact h.sum j hj'
    · exact (cnt_none fun p hp => by have := h.mem p hp; show p.mi ≠ id; omega).2

theorem BSt.Ok.begin (h : B.Ok) (at' : Int) : (begB B at').Ok := by
  unfold begB
  split
  · rename_i h0
    obtain ⟨h1, h2⟩ := begE_zero h0
    have h3 := not_early h1
    exact ⟨h.led, Int.le_trans h.last h3.1, h.tmo, h.acc.begin h3.1 h3.2 h2⟩
  · exact h

theorem sbE_zero {size at' : Int} (h : sbE B size at' = 0) : ¬ earlyB B at' ∧ 0 < B.ms.length ∧ sndE (lastM B.ms) size = 0 ∧ sendE B.L (lastM B.ms).id size at' = 0 := by
  unfold sbE at h
  split at h
  · omega
  · rename_i h1
    split at h
    · omega
    · rename_i h2
      split at h
      · rename_i h3; exact ⟨h1, by omega, h3, h⟩
      · rename_i h3; exact absurd h h3

theorem sndE_zero {m : Mi} {n : Int} (h : sndE m n = 0) : m.Is ∧ SizeP n ∧ m.to = -1 ∧ m.packets ≠ 1048576 := by
  unfold sndE at h
  repeat' split at h
  all_goals first | omega | skip
  rename_i h1 h2 h3 h4
  exact ⟨by simpa using h1, by simpa using h2, by simpa using h3, h4⟩

theorem snd_is {m : Mi} {n : Int} (h : sndE m n = 0) : (sndM m n).Is := by
  obtain ⟨⟨a, b, c, d, e⟩, h2, h3, h4⟩ := sndE_zero h
  refine ⟨a, ?_, ?_, d, e⟩
  · unfold Mi.CntP sndM at *; simp only; omega
  · unfold Mi.BytP Mi.CntP SizeP sndM at *
    simp only
    refine ⟨by omega, by omega, by omega, by omega, by omega, by omega, by omega, ?_⟩
    constructor <;> intro _ <;> omega

theorem BSt.Ok.send (h : B.Ok) (size at' : Int) : (sbB B size at').Ok := by
  unfold sbB
  split
  · rename_i h0
    obtain ⟨h1, h2, h3, h4⟩ := sbE_zero h0
    have h5 := not_early h1
    have hl := h.acc.later h5.1 h5.2
    have ht := hl.tm
    obtain ⟨f1, f2, f3, f4⟩ := lastM_facts h.acc h2
    have hs := (sndE_zero h3).2.1
    unfold SizeP at hs
    have hL : sendL B.L (lastM B.ms).id size at' = ⟨B.L.room, B.L.first, B.L.next + 1, at', B.L.es ++ [⟨B.L.next, (lastM B.ms).id, size, at'⟩]⟩ := by rw [sendL, if_pos h4]
    have hok := okL_send h.led (lastM B.ms).id size at'
    refine ⟨hok, by rw [hL]; exact Int.le_refl _, h.tmo, ?_⟩
    rw [hL]
    have hidn := h.acc.idn
    have hj : B.ms.length - 1 < B.ms.length := by omega
    have hc := h.acc.cnt _ hj
    have hm := h.acc.sum _ hj
    refine hl.put (j := B.ms.length - 1) hj rfl rfl rfl (snd_is h3) ?_ ?_ (fun k hk => ?_) ?_
    · intro p hp
      rcases List.mem_append.1 hp with hp | hp
      · exact hl.pk p hp
      · rw [List.mem_singleton.1 hp]; exact ⟨hs.1, hs.2, ht.1, Int.le_refl _⟩
    · intro p hp
      rcases List.mem_append.1 hp with hp | hp
      · exact hl.mem p hp
      · rw [List.mem_singleton.1 hp]; simp only [f4]; omega
    · have hk' : ¬ (lastM B.ms).id = k := fun e => hk (by rw [← e]; rfl)
      simp only [cntP_app, sumP_app, cntP, sumP, if_neg hk']
      omega
    · simp only [sndM, cntP_app, sumP_app, cntP, sumP, if_true]
      unfold lastM
      omega
  · exact h

theorem enE_zero {seq at' : Int} (h : enE B seq at' = 0) : ¬ earlyB B at' ∧ takeE B.L seq = 0 ∧ hasP B.L.es seq = true := by
  unfold enE at h
  split at h
  · omega
  · rename_i h1
    refine ⟨h1, h, ?_⟩
    unfold takeE at h
    repeat' split at h
    all_goals first | assumption | omega

theorem Acc.split {es : List Pkt} {ms : List Mi} {id now : Int} (h : Acc es ms id now) {seq : Int} (hh : hasP es seq = true) : Acc (findP es seq :: delP es seq) ms id now := by
  refine h.perm ?_ (fun k => (take_split seq k hh).1) (fun k => (take_split seq k hh).2.1)
  intro p hp
  rcases List.mem_cons.1 hp with rfl | hp
  · exact (take_split seq 0 hh).2.2
  · exact List.mem_of_mem_eraseP hp

theorem BSt.Ok.ack (h : B.Ok) (seq at' : Int) : (akB B seq at').Ok := by
  unfold akB
  split
  · rename_i h0
    obtain ⟨h1, h2, h3⟩ := enE_zero h0
    have h5 := not_early h1
    have hok := okL_take h.led seq
    have hL : takeL B.L seq = ⟨B.L.room, B.L.first, B.L.next, B.L.last, delP B.L.es seq⟩ := by rw [takeL, if_pos h2]
    refine ⟨hok, ?_, h.tmo, ?_⟩
    · rw [hL]; exact Int.le_trans h.last h5.1
    · rw [hL]
      exact (((h.acc.later h5.1 h5.2).split h3).ack).2
  · exact h

theorem BSt.Ok.lose (h : B.Ok) (seq at' : Int) : (loB B seq at').Ok := by
  unfold loB
  split
  · rename_i h0
    obtain ⟨h1, h2, h3⟩ := enE_zero h0
    have h5 := not_early h1
    have hok := okL_take h.led seq
    have hL : takeL B.L seq = ⟨B.L.room, B.L.first, B.L.next, B.L.last, delP B.L.es seq⟩ := by rw [takeL, if_pos h2]
    refine ⟨hok, ?_, h.tmo, ?_⟩
    · rw [hL]; exact Int.le_trans h.last h5.1
    · rw [hL]
      exact (((h.acc.later h5.1 h5.2).split h3).lose).2
  · exact h

theorem Acc.loses {id now : Int} {es : List Pkt} : ∀ {ps : List Pkt} {ms : List Mi}, Acc (ps ++ es) ms id now → Acc es (ps.foldl losM ms) id now
  | [], _, h => h
  | p :: ps, ms, h => Acc.loses (ps := ps) (ms := losM ms p) (Acc.lose (p := p) (es := ps ++ es) h).2

theorem Acc.exp {es : List Pkt} {ms : List Mi} {id now : Int} (h : Acc es ms id now) (q : Pkt → Bool) : Acc (es.filter q ++ es.filter fun p => !q p) ms id now := by
  refine h.perm ?_ (fun k => (cntP_split q k es).symm) (fun k => (sumP_split q k es).symm)
  intro p hp
  rcases List.mem_append.1 hp with hp | hp <;> exact (List.mem_filter.1 hp).1

theorem BSt.Ok.expire (h : B.Ok) (at' : Int) : (exB B at').Ok := by
  unfold exB
  split
  · exact h
  · rename_i h1
    have h5 := not_early h1
    exact ⟨okL_exp h.led at' B.tmo, Int.le_trans h.last h5.1, h.tmo, (((h.acc.later h5.1 h5.2).exp (overX at' B.tmo)).loses)⟩

theorem tail_get {ms : List Mi} {j : Nat} : ms.tail.getD j Mi.zero = ms.getD (j + 1) Mi.zero := by
  cases ms <;> simp

theorem Acc.tail {es : List Pkt} {ms : List Mi} {id now : Int} (ha : Acc es ms id now) (h1 : 0 < ms.length) (h4 : (ms.getD 0 Mi.zero).hits + (ms.getD 0 Mi.zero).drops = (ms.getD 0 Mi.zero).packets) : Acc es ms.tail id now := by
  have hlen := ha.len
  have hidn := ha.idn
  have hc := ha.cnt 0 h1
  have e0 := ha.ids 0 h1
  have hz := cnt_zero ha.sizes (k := (ms.getD 0 Mi.zero).id) (by omega)
  constructor
  · exact ha.tm
  · exact ha.pk
  · intro j hj
    rw [List.length_tail] at hj ⊢
    rw [tail_get, ha.ids (j + 1) (by omega)]
    omega
  · rw [List.length_tail]; omega
  · rw [List.length_tail]; omega
  · intro j hj
    rw [List.length_tail] at hj
    rw [tail_get]
    exact ha.is (j + 1) (by omega)
  · intro j hj
    rw [List.length_tail] at hj ⊢
    rw [tail_get, ha.shut (j + 1) (by omega)]
    omega
  · intro p hp
    have := ha.mem p hp
    have := hz p hp
    rw [List.length_tail]
    omega
  · intro j hj
    rw [List.length_tail] at hj
    rw [tail_get]
    exact ha.cnt (j + 1) (by omega)
  · intro j hj
    rw [List.length_tail] at hj
    rw [tail_get]
    exact ha.sum (j + 1) (by omega)

theorem BSt.Ok.take (h : B.Ok) : (tkB B).Ok := by
  unfold tkB
  split
  · rename_i h0
    exact ⟨h.led, h.last, h.tmo, h.acc.tail h0.1 h0.2.2.2⟩
  · exact h

def newB' (room first tmo : Int) : BSt := ⟨newL room first, 0, [], 0, tmo⟩

theorem okB_new {room first tmo : Int} (h1 : 1 ≤ room) (h2 : room ≤ 4096) (h3 : 0 ≤ first) (h4 : first ≤ 18446744073709551615) (h5 : 1 ≤ tmo) (h6 : tmo ≤ 60000000) : (newB' room first tmo).Ok where
  led := okL_new h1 h2 h3 h4
  last := Int.le_refl _
  tmo := ⟨h5, h6⟩
  acc := by
    constructor
    · exact ⟨Int.le_refl _, by show (0 : Int) ≤ _; omega⟩
    · intro p hp; cases hp
    · intro j hj; cases hj
    · exact Nat.zero_le _
    · exact Int.le_refl _
    · intro j hj; cases hj
    · intro j hj; cases hj
    · intro p hp; cases hp
    · intro j hj; cases hj
    · intro j hj; cases hj

end

end Go.Proofs.Ythckkoledhjmeaa.Ev
