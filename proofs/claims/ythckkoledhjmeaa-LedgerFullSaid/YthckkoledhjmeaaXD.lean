/-
  A ledger in plain words; that the program's and the document's do so: sending, and taking from the program's.
-/
import Derived.Test.YthckkoledhjmeaaXB
namespace Go.Proofs.Ythckkoledhjmeaa.Ev
open Go

structure LSt.Ok (L : LSt) : Prop where
  sorted : L.es.Pairwise fun a b => a.seq < b.seq
  lo : ∀ p ∈ L.es, L.first ≤ p.seq ∧ p.seq < L.next
  room : 1 ≤ L.room ∧ L.room ≤ 4096
  len : (L.es.length : Int) ≤ L.room
  first : 0 ≤ L.first ∧ L.first ≤ L.next
  next : L.next ≤ 18446744073709551615
  last : 0 ≤ L.last ∧ L.last ≤ 1099511627776
  sent : ∀ p ∈ L.es, 0 ≤ p.sent ∧ p.sent ≤ L.last
  pk : ∀ p ∈ L.es, 0 ≤ p.mi ∧ 1 ≤ p.size ∧ p.size ≤ 9000

def newL (room first : Int) : LSt := ⟨room, first, first, 0, []⟩

def sendE (L : LSt) (mi size at' : Int) : Int :=
  if mi < 0 then 1 else if size < 1 then 9 else if size > 9000 then 9 else if at' < L.last then 10 else if at' > 1099511627776 then 10 else if (L.es.length : Int) = L.room then 2 else if L.next = 18446744073709551615 then 15 else 0
def sendN (L : LSt) (mi size at' : Int) : Int := if sendE L mi size at' = 0 then L.next else 0
def sendL (L : LSt) (mi size at' : Int) : LSt := if sendE L mi size at' = 0 then ⟨L.room, L.first, L.next + 1, at', L.es ++ [⟨L.next, mi, size, at'⟩]⟩ else L
def sendR (L : LSt) (mi size at' : Int) : AV := .tup [.s (.d (.int .u64 (sendN L mi size at'))), .s (.d (.int .i64 (sendE L mi size at')))]

def takeE (L : LSt) (seq : Int) : Int := if seq < L.first then 3 else if seq ≥ L.next then 3 else if hasP L.es seq then 0 else 4
def takeP (L : LSt) (seq : Int) : Pkt := if takeE L seq = 0 then findP L.es seq else Pkt.zero
def takeL (L : LSt) (seq : Int) : LSt := if takeE L seq = 0 then ⟨L.room, L.first, L.next, L.last, delP L.es seq⟩ else L
def takeR (L : LSt) (seq : Int) : AV := .tup [.agg (takeP L seq).cells, .s (.d (.int .i64 (takeE L seq)))]

def expP (L : LSt) (att tmo : Int) : List Pkt := L.es.filter (overX att tmo)
def expL (L : LSt) (att tmo : Int) : LSt := ⟨L.room, L.first, L.next, L.last, L.es.filter fun p => !overX att tmo p⟩

section
variable {L : LSt}

theorem LSt.Ok.fresh (h : L.Ok) : hasP L.es L.next = false := by
  rw [Bool.eq_false_iff]
  intro hh
  simp only [hasP, List.any_eq_true, beq_iff_eq] at hh
  obtain ⟨p, hp, he⟩ := hh
  have := (h.lo p hp).2
  omega

theorem okL_new {room first : Int} (h1 : 1 ≤ room) (h2 : room ≤ 4096) (h3 : 0 ≤ first) (h4 : first ≤ 18446744073709551615) : (newL room first).Ok where
  sorted := List.Pairwise.nil
  lo p hp := by cases hp
  room := ⟨h1, h2⟩
  len := by simp only [newL, List.length_nil]; omega
  first := ⟨h3, Int.le_refl _⟩
  next := h4
  last := ⟨Int.le_refl _, by simp [newL]⟩
  sent p hp := by cases hp
  pk p hp := by cases hp

theorem sendE_zero {mi size at' : Int} (h : sendE L mi size at' = 0) : 0 ≤ mi ∧ 1 ≤ size ∧ size ≤ 9000 ∧ L.last ≤ at' ∧ at' ≤ 1099511627776 ∧ (L.es.length : Int) ≠ L.room ∧ L.next ≠ 18446744073709551615 := by
  unfold sendE at h
  split at h
  · cases h
  split at h
  · cases h
  split at h
  · cases h
  split at h
  · cases h
  split at h
  · cases h
  split at h
  · cases h
  split at h
  · cases h
  refine ⟨by omega, by omega, by omega, by omega, by omega, by assumption, by assumption⟩

theorem okL_send (h : L.Ok) (mi size at' : Int) : (sendL L mi size at').Ok := by
  unfold sendL
  split
  · rename_i h0
    obtain ⟨h1, h2, h3, h4, h5, h6, h7⟩ := sendE_zero h0
    have hn := h.next
    have hf := h.first
    have hl := h.last
    have hlen := h.len
    refine ⟨?_, fun p hp => ?_, h.room, ?_, ?_, ?_, ?_, fun p hp => ?_, fun p hp => ?_⟩
    · simp only [List.pairwise_append, List.pairwise_cons, List.not_mem_nil, false_implies, implies_true, List.Pairwise.nil, and_self, List.mem_singleton, true_and]
      refine ⟨h.sorted, fun a ha b hb => ?_⟩
      subst hb
      exact (h.lo a ha).2
    · rcases List.mem_append.1 hp with hp | hp
      · have := h.lo p hp; exact ⟨this.1, by simp only []; omega⟩
      · simp only [List.mem_singleton] at hp; subst hp; exact ⟨hf.2, by simp only []; omega⟩
    · simp only [List.length_append, List.length_singleton]; omega
    · exact ⟨hf.1, by simp only []; omega⟩
    · simp only []; omega
    · exact ⟨by simp only []; omega, h5⟩
    · rcases List.mem_append.1 hp with hp | hp
      · have := h.sent p hp; exact ⟨this.1, by simp only []; omega⟩
      · simp only [List.mem_singleton] at hp; subst hp; exact ⟨by simp only []; omega, Int.le_refl _⟩
    · rcases List.mem_append.1 hp with hp | hp
      · exact h.pk p hp
      · simp only [List.mem_singleton] at hp; subst hp; exact ⟨h1, h2, h3⟩
  · exact h

theorem okL_sub (h : L.Ok) {es : List Pkt} (hs : es.Sublist L.es) : (⟨L.room, L.first, L.next, L.last, es⟩ : LSt).Ok where
  sorted := h.sorted.sublist hs
  lo p hp := h.lo p (hs.subset hp)
  room := h.room
  len := by have := hs.length_le; have := h.len; simp only []; omega
  first := h.first
  next := h.next
  last := h.last
  sent p hp := h.sent p (hs.subset hp)
  pk p hp := h.pk p (hs.subset hp)

theorem okL_take (h : L.Ok) (seq : Int) : (takeL L seq).Ok := by
  unfold takeL
  split
  · exact okL_sub h (List.eraseP_sublist)
  · exact h

theorem okL_exp (h : L.Ok) (att tmo : Int) : (expL L att tmo).Ok := okL_sub h List.filter_sublist

theorem delP_filter : ∀ {es : List Pkt}, es.Pairwise (fun a b => a.seq < b.seq) → ∀ s, delP es s = es.filter fun p => !(p.seq == s)
  | [], _, s => rfl
  | p :: es, h, s => by
    have ih := delP_filter (List.pairwise_cons.1 h).2 s
    unfold delP at ih ⊢
    rw [List.eraseP_cons, List.filter_cons]
    by_cases hp : s = p.seq
    · subst hp
      simp only [beq_self_eq_true, Bool.not_true, Bool.false_eq_true, if_false, cond_true]
      symm
      rw [List.filter_eq_self]
      intro q hq
      have := (List.pairwise_cons.1 h).1 q hq
      simp only [Bool.not_eq_true', beq_eq_false_iff_ne, ne_eq]
      omega
    · have h1 : (s == p.seq) = false := by simpa using hp
      have h2 : (p.seq == s) = false := by simpa using fun e => hp e.symm
      simp only [h1, h2, ih, Bool.not_false, if_true, cond_false]

end

theorem e12ok : EntsOk Try.prog e12 := ⟨k12, trivial⟩
theorem e14ok : EntsOk Try.prog e14 := ⟨k14, trivial⟩
theorem e13ok : EntsOk Try.prog e13 := ⟨k13, k39, k40, trivial⟩

theorem wrapU {x : Int} (h1 : 0 ≤ x) (h2 : x < 18446744073709551616) : IntKind.u64.wrap x = x := by rw [IntKind.wrap_u64]; omega

def lhp (L : LSt) : Heap := [.cells 86 (lc L 1), .pm L.es]
def rhp (L : LSt) : Heap := [.cells 44 (rc L 1 L.es.length), .row 36 4 L.es.length (pkG L.es)]
def rhp2 (L : LSt) : Heap := [.cells 44 (rc L 2 L.es.length), .dead, .row 36 4 L.es.length (pkG L.es)]

theorem send12 (L : LSt) (h : L.Ok) (mi size at' : Int) :
    CallsA Try.prog 12 [.e (.s (.ptr 0 0)), .d (.int .i64 mi), .d (.int .i64 size), .d (.int .i64 at')] (lhp L) fun r H' => r = sendR L mi size at' ∧ H' = lhp (sendL L mi size at') := by
  refine CallsA.re (calls_of fine e12ok 1 12 _ _ ?_)
  show (t12 L mi size at').sat _ _
  rw [t12_eq]
  have key : ∀ e : Int, sendE L mi size at' = e → e ≠ 0 → Re 2 [.tup [.s (.c (.int .u64 0)), .s (.c (.int .i64 e))]] (lhp L) fun fr H2 => ∃ r2, fr = [r2] ∧ r2 = sendR L mi size at' ∧ H2 = lhp (sendL L mi size at') := by
    intro e he h0
    refine .toD (.refl ⟨_, rfl, ?_, ?_⟩)
    · simp [sendR, sendN, he, h0, AV.toD, EV.toD, SV.toD]
    · have : sendL L mi size at' = L := by simp [sendL, he, h0]
      rw [this]; rfl
  refine ⟨fun h1 => key 1 ?_ (by decide), fun h1 => ⟨fun h2 => key 9 ?_ (by decide), fun h2 => ⟨fun h3 => key 9 ?_ (by decide), fun h3 => ⟨fun h4 => key 10 ?_ (by decide), fun h4 => ⟨fun h5 => key 10 ?_ (by decide), fun h5 => ⟨fun h6 => key 2 ?_ (by decide), fun h6 => ⟨fun h7 => key 15 ?_ (by decide), fun h7 => ⟨⟨rfl, h.fresh⟩, ?_⟩⟩⟩⟩⟩⟩⟩⟩ <;>
    simp only [decide_eq_true_eq, decide_eq_false_iff_not, beq_iff_eq, beq_eq_false_iff_ne, ne_eq] at *
  · simp [sendE, h1]
  · simp [sendE, h1, h2]
  · simp [sendE, h1, h2, h3]
  · simp [sendE, h1, h2, h3, h4]
  · simp [sendE, h1, h2, h3, h4, h5]
  · simp [sendE, h1, h2, h3, h4, h5, h6]
  · simp [sendE, h1, h2, h3, h4, h5, h6, h7]
  · have hE : sendE L mi size at' = 0 := by simp [sendE, h1, h2, h3, h4, h5, h6, h7]
    have hw : IntKind.u64.wrap (L.next + 1) = L.next + 1 := wrapU (by have := h.first; omega) (by have := h.next; omega)
    refine .toD (.refl ⟨_, rfl, ?_, ?_⟩)
    · simp [sendR, sendN, hE, AV.toD, EV.toD, SV.toD]
    · have : sendL L mi size at' = ⟨L.room, L.first, L.next + 1, at', L.es ++ [⟨L.next, mi, size, at'⟩]⟩ := by simp [sendL, hE]
      rw [this, hw]; rfl

theorem take14 (L : LSt) (seq : Int) :
    CallsA Try.prog 14 [.e (.s (.ptr 0 0)), .d (.int .u64 seq)] (lhp L) fun r H' => r = takeR L seq ∧ H' = lhp (takeL L seq) := by
  refine CallsA.re (calls_of fine e14ok 1 14 _ _ ?_)
  show (t14 L seq).sat _ _
  rw [t14_eq]
  have key : ∀ e : Int, takeE L seq = e → e ≠ 0 → Re 2 [.tup [.agg [.c (.int .u64 0), .c (.int .i64 0), .c (.int .i64 0), .c (.int .i64 0)], .s (.c (.int .i64 e))]] (lhp L) fun fr H2 => ∃ r2, fr = [r2] ∧ r2 = takeR L seq ∧ H2 = lhp (takeL L seq) := by
    intro e he h0
    refine .toD (.refl ⟨_, rfl, ?_, ?_⟩)
    · simp [takeR, takeP, he, h0, AV.toD, EV.toD, SV.toD, Pkt.zero, Pkt.cells]
    · have : takeL L seq = L := by simp [takeL, he, h0]
      rw [this]; rfl
  refine ⟨fun h1 => key 3 ?_ (by decide), fun h1 => ⟨fun h2 => key 3 ?_ (by decide), fun h2 => ⟨fun h3 => ?_, fun h3 => key 4 ?_ (by decide)⟩⟩⟩ <;>
    simp only [decide_eq_true_eq, decide_eq_false_iff_not] at *
  · simp [takeE, h1]
  · simp only [takeE, h1, if_false]; rw [if_pos h2]
  · have hE : takeE L seq = 0 := by simp only [takeE, h1, h3, if_false, if_true]; rw [if_neg h2]
    refine .toD (.refl ⟨_, rfl, ?_, ?_⟩)
    · simp [takeR, takeP, hE, AV.toD, EV.toD, SV.toD, Pkt.cells]
    · have : takeL L seq = ⟨L.room, L.first, L.next, L.last, delP L.es seq⟩ := by simp [takeL, hE]
      rw [this]; rfl
  · simp only [takeE, h1, h3, if_false]; rw [if_neg h2]; rfl

theorem send13 (L : LSt) (h : L.Ok) (mi size at' : Int) :
    CallsA Try.prog 13 [.e (.s (.ptr 0 0)), .d (.int .i64 mi), .d (.int .i64 size), .d (.int .i64 at')] (rhp L) fun r H' => r = sendR L mi size at' ∧ H' = rhp2 (sendL L mi size at') := by
  refine CallsA.re (calls_of fine e13ok 2 13 _ _ ?_)
  show (t13 L L.es.length (pkG L.es) mi size at').sat _ _
  rw [t13_eq]
  have key : ∀ e : Int, sendE L mi size at' = e → e ≠ 0 → Re 2 [.tup [.s (.c (.int .u64 0)), .s (.c (.int .i64 e))]] (rhp L) fun fr H2 => ∃ r2, fr = [r2] ∧ r2 = sendR L mi size at' ∧ H2 = rhp2 (sendL L mi size at') := by
    intro e he h0
    refine .toD (Re.ren [some 0, none, some 1] rfl rfl rfl (.refl ⟨_, rfl, ?_, ?_⟩))
    · simp [sendR, sendN, he, h0]
    · have : sendL L mi size at' = L := by simp [sendL, he, h0]
      rw [this]; rfl
  have hlast := h.last
  have hlen := h.len
  refine ⟨fun h1 => key 1 ?_ (by decide), fun h1 => ⟨fun h2 => ⟨fun h3 => ⟨fun h4 => ⟨fun h5 => ⟨fun h6 => key 10 ?_ (by decide), fun h6 => ⟨fun h7 => key 2 ?_ (by decide), fun h7 => ⟨fun h8 => key 15 ?_ (by decide), fun h8 => ⟨rfl, ⟨by omega, by simp [chunks_len], ?_⟩, ?_⟩⟩⟩⟩, fun h5 => key 10 ?_ (by decide)⟩, fun h4 => key 10 ?_ (by decide)⟩, fun h3 => key 9 ?_ (by decide)⟩, fun h2 => key 9 ?_ (by decide)⟩⟩ <;>
    simp only [decide_eq_true_eq, decide_eq_false_iff_not, beq_iff_eq, beq_eq_false_iff_ne, ne_eq] at *
  · simp [sendE, h1]
  · simp only [sendE]; rw [if_neg h1, if_neg (by omega), if_neg (by omega), if_pos h6]
  · simp only [sendE]; rw [if_neg h1, if_neg (by omega), if_neg (by omega), if_neg h6, if_neg (by omega), if_pos (by omega)]
  · simp only [sendE]; rw [if_neg h1, if_neg (by omega), if_neg (by omega), if_neg h6, if_neg (by omega), if_neg (by omega), if_pos h8]
  · have := h.room; unfold most; omega
  · have hE : sendE L mi size at' = 0 := by simp only [sendE]; rw [if_neg h1, if_neg (by omega), if_neg (by omega), if_neg h6, if_neg (by omega), if_neg (by omega), if_neg h8]
    have hw : IntKind.u64.wrap (L.next + 1) = L.next + 1 := wrapU (by have := h.first; omega) (by have := h.next; omega)
    have hw2 : IntKind.u64.wrap (L.next + 1 - 1) = L.next := by rw [wrapU] <;> have := h.first <;> have := h.next <;> omega
    rw [hw, hw2]
    have hS : sendL L mi size at' = ⟨L.room, L.first, L.next + 1, at', L.es ++ [⟨L.next, mi, size, at'⟩]⟩ := by simp [sendL, hE]
    refine .toD (Re.row 3 (pkG (L.es ++ [⟨L.next, mi, size, at'⟩])) rfl (app_pk L.es _ _ rfl) (Re.ren [some 0, none, some 3] rfl rfl rfl (.refl ⟨_, rfl, ?_, ?_⟩)))
    · simp [sendR, sendN, hE]
    · rw [hS]; simp [rhp2, rc]
  · simp only [sendE]; rw [if_neg h1, if_neg (by omega), if_neg (by omega), if_neg (by omega), if_pos (by omega)]
  · simp only [sendE]; rw [if_neg h1, if_neg (by omega), if_neg (by omega), if_pos (by omega)]
  · simp only [sendE]; rw [if_neg h1, if_neg (by omega), if_pos (by omega)]
  · simp only [sendE]; rw [if_neg h1, if_pos (by omega)]

end Go.Proofs.Ythckkoledhjmeaa.Ev
