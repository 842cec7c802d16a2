/-
  Books begin: summaries.
-/
import Derived.Test.YthckkoledhjmeaaCE
namespace Go.Proofs.Ythckkoledhjmeaa.Ev
open Go

def s23 (args : List AV) (H : Heap) : T (AV × Heap) :=
  match args with
  | [a, b, c] => match numA a, numA b, numA c with
    | some (.i64, room), some (.u64, first), some (.i64, tmo) => .ite (nbE room tmo != 0) (.ret (.tup [.s (.c (.pointer none)), .s (.d (.int .i64 (nbE room tmo)))], H))
        (.ret (.tup [.s (.ptr H.length 0), .s (.c (.int .i64 0))], H ++ [.cells 95 [.ptr (H.length + 1) 0, .d (.int .i64 0), .sl (H.length + 3) 15 0 0 0, .d (.int .i64 0), .d (.int .i64 tmo)], .cells 86 (lc (newL room first) (H.length + 2)), .pm [], .row 80 15 0 (miG [])]))
    | _, _, _ => .fail
  | _ => .fail

def s29 (args : List AV) (H : Heap) : T (AV × Heap) :=
  match args with
  | [a, b, c] => match numA a, numA b, numA c with
    | some (.i64, room), some (.u64, first), some (.i64, tmo) => .ite (nbE room tmo != 0) (.ret (.tup [.s (.c (.pointer none)), .s (.d (.int .i64 (nbE room tmo)))], H))
        (.ret (.tup [.s (.ptr H.length 0), .s (.c (.int .i64 0))], H ++ [.cells 72 [.ptr (H.length + 1) 0, .sl (H.length + 3) 15 0 0 0, .d (.int .i64 0), .d (.int .i64 tmo), .d (.int .i64 0)], .cells 44 (rc (newL room first) (H.length + 2) 0), .row 36 4 0 (pkG []), .row 80 15 0 (miG [])]))
    | _, _, _ => .fail
  | _ => .fail

theorem s23ok : (Ent.summ s23).ok Try.prog 23 := by
  intro args H Q hq
  unfold s23 at hq
  split at hq
  · rename_i a b c
    split at hq
    · rename_i room first tmo ha hb hc
      obtain ⟨a1, a2⟩ := numA_facts ha
      obtain ⟨b1, b2⟩ := numA_facts hb
      obtain ⟨c1, c2⟩ := numA_facts hc
      refine CallsA.lift (args0 := [a, b, c]) (H0 := []) [] ?_ rfl rfl (Q0 := nbQ room tmo (nb1 room first tmo)) (CallsA.toD ?_) ?_ ?_
      · simp only [List.map_nil, renFr, a1, b1, c1]
      · simp only [List.map_cons, List.map_nil, a2, b2, c2]
        exact new23 room first tmo
      · intro r H' h
        by_cases hn : nbE room tmo = 0
        · have := h.2 hn; simp only [nb1, Prod.mk.injEq] at this; rw [this.2]; rfl
        · rw [(h.1 hn).2]; rfl
      · intro r H' h
        by_cases hn : nbE room tmo = 0
        · have := h.2 hn
          simp only [nb1, Prod.mk.injEq] at this
          rw [this.1, this.2]
          have h3 := hq.2 (by rw [hn]; rfl)
          simpa [T.sat, AV.by, EV.by, SV.by, back, backH, backSet, AB.by, lc, bhp, bH, newB', newL] using h3
        · rw [(h.1 hn).1, (h.1 hn).2, backH_nil]; exact hq.1 (by simpa using hn)
    · exact hq.elim
  · exact hq.elim

theorem s29ok : (Ent.summ s29).ok Try.prog 29 := by
  intro args H Q hq
  unfold s29 at hq
  split at hq
  · rename_i a b c
    split at hq
    · rename_i room first tmo ha hb hc
      obtain ⟨a1, a2⟩ := numA_facts ha
      obtain ⟨b1, b2⟩ := numA_facts hb
      obtain ⟨c1, c2⟩ := numA_facts hc
      refine CallsA.lift (args0 := [a, b, c]) (H0 := []) [] ?_ rfl rfl (Q0 := nbQ room tmo (nb2 room first tmo)) (CallsA.toD ?_) ?_ ?_
      · simp only [List.map_nil, renFr, a1, b1, c1]
      · simp only [List.map_cons, List.map_nil, a2, b2, c2]
        exact new29 room first tmo
      · intro r H' h
        by_cases hn : nbE room tmo = 0
        · have := h.2 hn; simp only [nb2, Prod.mk.injEq] at this; rw [this.2]; rfl
        · rw [(h.1 hn).2]; rfl
      · intro r H' h
        by_cases hn : nbE room tmo = 0
        · have := h.2 hn
          simp only [nb2, Prod.mk.injEq] at this
          rw [this.1, this.2]
          have h3 := hq.2 (by rw [hn]; rfl)
          simpa [T.sat, AV.by, EV.by, SV.by, back, backH, backSet, AB.by, rc, rhb, rH, newB', newL] using h3
        · rw [(h.1 hn).1, (h.1 hn).2, backH_nil]; exact hq.1 (by simpa using hn)
    · exact hq.elim
  · exact hq.elim

end Go.Proofs.Ythckkoledhjmeaa.Ev
