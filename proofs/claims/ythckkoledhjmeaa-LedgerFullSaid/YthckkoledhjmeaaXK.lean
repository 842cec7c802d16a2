/-
  A ledger begins: summaries.
-/
import Derived.Test.YthckkoledhjmeaaXJ
namespace Go.Proofs.Ythckkoledhjmeaa.Ev
open Go

theorem e10ok : EntsOk Try.prog e10 := ⟨k10, trivial⟩
theorem e11ok : EntsOk Try.prog e11 := ⟨k11, trivial⟩

def newB (room : Int) : Bool := decide (room < 1) || decide (room > 4096)

theorem newB_false {room : Int} (h : newB room = false) : 1 ≤ room ∧ room ≤ 4096 := by
  simp only [newB, Bool.or_eq_false_iff, decide_eq_false_iff_not] at h; omega

/-- What New hands back, told by its two ways. -/
def newQ (room : Int) (x : AV × Heap) (r : AV) (H' : Heap) : Prop :=
  (newB room = true → r = .tup [.s (.c (.pointer none)), .s (.c (.int .i64 1))] ∧ H' = []) ∧ (newB room = false → (r, H') = x)

theorem new10 (room first : Int) : CallsA Try.prog 10 [.d (.int .i64 room), .d (.int .u64 first)] [] (newQ room (.tup [.s (.ptr 0 0), .s (.c (.int .i64 0))], [.cells 86 (lc (newL room first) 1), .pm []])) := by
  refine CallsA.re (calls_of fine e10ok 1 10 _ _ ?_)
  show (t10 room first).sat _ _
  rw [t10_eq]
  refine ⟨fun h => .refl ⟨_, rfl, fun _ => ⟨rfl, rfl⟩, fun h1 => ?_⟩, fun h => ⟨fun h2 => .refl ⟨_, rfl, fun _ => ⟨rfl, rfl⟩, fun h1 => ?_⟩, fun h2 => ?_⟩⟩
  · simp [newB, h] at h1
  · simp [newB, h2] at h1
  · refine .toDm [] [false, true] (Re.ren [some 1, some 0] rfl rfl rfl (.refl ⟨_, rfl, fun h1 => ?_, fun _ => rfl⟩))
    simp only [newB, h, h2] at h1; cases h1

theorem new11 (room first : Int) : CallsA Try.prog 11 [.d (.int .i64 room), .d (.int .u64 first)] [] (newQ room (.tup [.s (.ptr 0 0), .s (.c (.int .i64 0))], [.cells 44 (rc (newL room first) 1 0), .row 36 4 0 (pkG [])])) := by
  refine CallsA.re (calls_of fine e11ok 1 11 _ _ ?_)
  show (t11 room first).sat _ _
  rw [t11_eq]
  refine ⟨fun h => .refl ⟨_, rfl, fun _ => ⟨rfl, rfl⟩, fun h1 => ?_⟩, fun h => ⟨fun h2 => .refl ⟨_, rfl, fun _ => ⟨rfl, rfl⟩, fun h1 => ?_⟩, fun h2 => ?_⟩⟩
  · simp [newB, h] at h1
  · simp [newB, h2] at h1
  · refine Re.nilCell 0 4 36 4 (pkG []) (by decide) rfl rfl (.toDm [] [true] (.refl ⟨_, rfl, fun h1 => ?_, fun _ => rfl⟩))
    simp only [newB, h, h2] at h1; cases h1

def s10 (args : List AV) (H : Heap) : T (AV × Heap) :=
  match args with
  | [a, b] => match numA a, numA b with
    | some (.i64, room), some (.u64, first) => .ite (newB room) (.ret (.tup [.s (.c (.pointer none)), .s (.c (.int .i64 1))], H)) (.ret (.tup [.s (.ptr H.length 0), .s (.c (.int .i64 0))], H ++ [.cells 86 (lc (newL room first) (H.length + 1)), .pm []]))
    | _, _ => .fail
  | _ => .fail

def s11 (args : List AV) (H : Heap) : T (AV × Heap) :=
  match args with
  | [a, b] => match numA a, numA b with
    | some (.i64, room), some (.u64, first) => .ite (newB room) (.ret (.tup [.s (.c (.pointer none)), .s (.c (.int .i64 1))], H)) (.ret (.tup [.s (.ptr H.length 0), .s (.c (.int .i64 0))], H ++ [.cells 44 (rc (newL room first) (H.length + 1) 0), .row 36 4 0 (pkG [])]))
    | _, _ => .fail
  | _ => .fail

theorem s10ok : (Ent.summ s10).ok Try.prog 10 := by
  intro args H Q hq
  unfold s10 at hq
  split at hq
  · rename_i a b
    split at hq
    · rename_i room first ha hb
      obtain ⟨a1, a2⟩ := numA_facts ha
      obtain ⟨b1, b2⟩ := numA_facts hb
      refine CallsA.lift (args0 := [a, b]) (H0 := []) [] ?_ rfl rfl (Q0 := newQ room (.tup [.s (.ptr 0 0), .s (.c (.int .i64 0))], [.cells 86 (lc (newL room first) 1), .pm []])) (CallsA.toD ?_) ?_ ?_
      · simp only [List.map_nil, renFr, a1, b1]
      · simp only [List.map_cons, List.map_nil, a2, b2]
        exact new10 room first
      · intro r H' h
        cases hn : newB room with
        | true => rw [(h.1 hn).2]; rfl
        | false => have := h.2 hn; simp only [Prod.mk.injEq] at this; rw [this.2]; rfl
      · intro r H' h
        cases hn : newB room with
        | true => rw [(h.1 hn).1, (h.1 hn).2, backH_nil]; exact hq.1 hn
        | false =>
          have := h.2 hn
          simp only [Prod.mk.injEq] at this
          rw [this.1, this.2]
          have h3 := hq.2 hn
          simpa [T.sat, AV.by, EV.by, SV.by, back, backH, backSet, AB.by, lc] using h3
    · exact hq.elim
  · exact hq.elim

theorem s11ok : (Ent.summ s11).ok Try.prog 11 := by
  intro args H Q hq
  unfold s11 at hq
  split at hq
  · rename_i a b
    split at hq
    · rename_i room first ha hb
      obtain ⟨a1, a2⟩ := numA_facts ha
      obtain ⟨b1, b2⟩ := numA_facts hb
      refine CallsA.lift (args0 := [a, b]) (H0 := []) [] ?_ rfl rfl (Q0 := newQ room (.tup [.s (.ptr 0 0), .s (.c (.int .i64 0))], [.cells 44 (rc (newL room first) 1 0), .row 36 4 0 (pkG [])])) (CallsA.toD ?_) ?_ ?_
      · simp only [List.map_nil, renFr, a1, b1]
      · simp only [List.map_cons, List.map_nil, a2, b2]
        exact new11 room first
      · intro r H' h
        cases hn : newB room with
        | true => rw [(h.1 hn).2]; rfl
        | false => have := h.2 hn; simp only [Prod.mk.injEq] at this; rw [this.2]; rfl
      · intro r H' h
        cases hn : newB room with
        | true => rw [(h.1 hn).1, (h.1 hn).2, backH_nil]; exact hq.1 hn
        | false =>
          have := h.2 hn
          simp only [Prod.mk.injEq] at this
          rw [this.1, this.2]
          have h3 := hq.2 hn
          simpa [T.sat, AV.by, EV.by, SV.by, back, backH, backSet, AB.by, rc] using h3
    · exact hq.elim
  · exact hq.elim

end Go.Proofs.Ythckkoledhjmeaa.Ev
