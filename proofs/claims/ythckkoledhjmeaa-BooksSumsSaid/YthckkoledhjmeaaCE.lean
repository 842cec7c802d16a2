/-
  Books begin: the program's and the document's.
-/
import Derived.Test.YthckkoledhjmeaaCA
namespace Go.Proofs.Ythckkoledhjmeaa.Ev
open Go

def e23 : List (Nat × Ent) := [(23, .body oN 0), (10, .summ s10)]
def e29 : List (Nat × Ent) := [(29, .body oN 0), (11, .summ s11)]

noncomputable def t23 (room first tmo : Int) : T (AV × Heap) := callT Try.prog (entL e23) 2 23 [.d (.int .i64 room), .d (.int .u64 first), .d (.int .i64 tmo)] [] fun r H' => .ret (r, H')

theorem t23_eq (room first tmo : Int) : t23 room first tmo =
 T.ite (newB room) (T.ret (AV.tup [EV.s (SV.c (Value.pointer none)), EV.s (SV.c (Value.int IntKind.i64 1))], []))
 (T.ite (decide (tmo < 1))
 (T.ret (AV.tup [EV.s (SV.c (Value.pointer none)), EV.s (SV.c (Value.int IntKind.i64 10))], []))
 (T.ite (decide (tmo > 60000000))
 (T.ret (AV.tup [EV.s (SV.c (Value.pointer none)), EV.s (SV.c (Value.int IntKind.i64 10))], []))
 (T.ret
 (AV.tup [EV.s (SV.ptr 2 0), EV.s (SV.c (Value.int IntKind.i64 0))],
 [AB.cells 86
 [SV.d (Value.int IntKind.i64 (newL room first).room),
 SV.d (Value.int IntKind.u64 (newL room first).first),
 SV.d (Value.int IntKind.u64 (newL room first).next), SV.d (Value.int IntKind.i64 0), SV.mp 1],
 AB.pm [],
 AB.cells 95
 [SV.ptr 0 0, SV.c (Value.int IntKind.i64 0), SV.c (Value.slice none 0 0), SV.c (Value.int IntKind.i64 0),
 SV.d (Value.int IntKind.i64 tmo)]])))) := by kernel_rfl


noncomputable def t29 (room first tmo : Int) : T (AV × Heap) := callT Try.prog (entL e29) 2 29 [.d (.int .i64 room), .d (.int .u64 first), .d (.int .i64 tmo)] [] fun r H' => .ret (r, H')

theorem t29_eq (room first tmo : Int) : t29 room first tmo =
 T.ite (newB room) (T.ret (AV.tup [EV.s (SV.c (Value.pointer none)), EV.s (SV.c (Value.int IntKind.i64 1))], []))
 (T.ite (decide (tmo < 1))
 (T.ret (AV.tup [EV.s (SV.c (Value.pointer none)), EV.s (SV.c (Value.int IntKind.i64 10))], []))
 (T.ite (decide (tmo > 60000000))
 (T.ret (AV.tup [EV.s (SV.c (Value.pointer none)), EV.s (SV.c (Value.int IntKind.i64 10))], []))
 (T.ret
 (AV.tup [EV.s (SV.ptr 2 0), EV.s (SV.c (Value.int IntKind.i64 0))],
 [AB.cells 44
 [SV.d (Value.int IntKind.i64 (newL room first).room),
 SV.d (Value.int IntKind.u64 (newL room first).first),
 SV.d (Value.int IntKind.u64 (newL room first).next), SV.d (Value.int IntKind.i64 0), SV.sl 1 4 0 0 0],
 AB.row 36 4 0 (pkG []),
 AB.cells 72
 [SV.ptr 0 0, SV.c (Value.slice none 0 0), SV.c (Value.int IntKind.i64 0),
 SV.d (Value.int IntKind.i64 tmo), SV.c (Value.int IntKind.i64 0)]])))) := by kernel_rfl


theorem e23ok : EntsOk Try.prog e23 := ⟨k23, s10ok, trivial⟩
theorem e29ok : EntsOk Try.prog e29 := ⟨k29, s11ok, trivial⟩

def nbE (room tmo : Int) : Int := if newB room = true then 1 else if tmo < 1 then 10 else if tmo > 60000000 then 10 else 0

theorem nbE_zero {room tmo : Int} (h : nbE room tmo = 0) : 1 ≤ room ∧ room ≤ 4096 ∧ 1 ≤ tmo ∧ tmo ≤ 60000000 := by
  unfold nbE at h
  repeat' split at h
  all_goals first | omega | skip
  rename_i h1 h2 h3
  have := newB_false (by simpa using h1)
  omega

theorem Re.tupD {n0 : Nat} {x : EV} {v : Value} {H : Heap} {R : List AV → Heap → Prop} (h : Re n0 [.tup [x, .s (.d v)]] H R) : Re n0 [.tup [x, .s (.c v)]] H R := by
  intro E w h1 h2 h3
  obtain ⟨fr3, H3, E3, k1, k2, k3, k4⟩ := h E w h1 (by
    intro y hy
    rw [List.mem_singleton.1 hy]
    have hx := h2 _ (List.mem_singleton.2 rfl)
    refine ⟨hx.1, fun z hz => ?_⟩
    simp only [AV.svs, List.flatMap_cons, List.flatMap_nil, List.append_nil, EV.svs, List.mem_append, List.mem_singleton] at hz
    rcases hz with hz | rfl
    · exact hx.2 z (by simp only [AV.svs, List.flatMap_cons, List.flatMap_nil, List.append_nil, EV.svs, List.mem_append]; exact .inl hz)
    · trivial) h3
  exact ⟨fr3, H3, E3, k1, k2, k3, k4⟩

/-- What New hands back, told by its two ways. -/
def nbQ (room tmo : Int) (x : AV × Heap) (r : AV) (H' : Heap) : Prop :=
  (nbE room tmo ≠ 0 → r = .tup [.s (.c (.pointer none)), .s (.d (.int .i64 (nbE room tmo)))] ∧ H' = []) ∧ (nbE room tmo = 0 → (r, H') = x)

def nb1 (room first tmo : Int) : AV × Heap := (.tup [.s (.ptr 0 0), .s (.c (.int .i64 0))], bhp (newB' room first tmo))
def nb2 (room first tmo : Int) : AV × Heap := (.tup [.s (.ptr 0 0), .s (.c (.int .i64 0))], rhb (newB' room first tmo))

theorem new23 (room first tmo : Int) : CallsA Try.prog 23 [.d (.int .i64 room), .d (.int .u64 first), .d (.int .i64 tmo)] [] (nbQ room tmo (nb1 room first tmo)) := by
  refine CallsA.re (calls_of fine e23ok 2 23 _ _ ?_)
  show (t23 room first tmo).sat _ _
  rw [t23_eq]
  have err : ∀ k : Int, nbE room tmo = k → k ≠ 0 → Re 0 [.tup [.s (.c (.pointer none)), .s (.c (.int .i64 k))]] [] fun fr H2 => ∃ r2, fr = [r2] ∧ nbQ room tmo (nb1 room first tmo) r2 H2 := by
    intro k hk h0
    refine .tupD (.refl ⟨_, rfl, fun _ => ?_, fun h => ?_⟩)
    · rw [hk]; exact ⟨rfl, rfl⟩
    · rw [hk] at h; exact absurd h h0
  refine ⟨fun h => err 1 (by rw [nbE, if_pos h]) (by decide), fun h => ⟨fun h2 => err 10 ?_ (by decide), fun h2 => ⟨fun h3 => err 10 ?_ (by decide), fun h3 => ?_⟩⟩⟩
  · simp only [decide_eq_true_eq] at h2
    rw [nbE, if_neg (by rw [h]; decide), if_pos h2]
  · simp only [decide_eq_true_eq, decide_eq_false_iff_not] at h2 h3
    rw [nbE, if_neg (by rw [h]; decide), if_neg h2, if_pos h3]
  · simp only [decide_eq_false_iff_not] at h2 h3
    have hz : nbE room tmo = 0 := by rw [nbE, if_neg (by rw [h]; decide), if_neg h2, if_neg h3]
    refine Re.nilCell 2 2 80 15 (miG []) (by decide) rfl rfl (Re.ren [some 2, some 0, some 1, some 3] rfl rfl rfl (.toDm [] [true, true] (.refl ⟨_, rfl, fun h => absurd hz h, fun _ => rfl⟩)))

theorem new29 (room first tmo : Int) : CallsA Try.prog 29 [.d (.int .i64 room), .d (.int .u64 first), .d (.int .i64 tmo)] [] (nbQ room tmo (nb2 room first tmo)) := by
  refine CallsA.re (calls_of fine e29ok 2 29 _ _ ?_)
  show (t29 room first tmo).sat _ _
  rw [t29_eq]
  have err : ∀ k : Int, nbE room tmo = k → k ≠ 0 → Re 0 [.tup [.s (.c (.pointer none)), .s (.c (.int .i64 k))]] [] fun fr H2 => ∃ r2, fr = [r2] ∧ nbQ room tmo (nb2 room first tmo) r2 H2 := by
    intro k hk h0
    refine .tupD (.refl ⟨_, rfl, fun _ => ?_, fun h => ?_⟩)
    · rw [hk]; exact ⟨rfl, rfl⟩
    · rw [hk] at h; exact absurd h h0
  refine ⟨fun h => err 1 (by rw [nbE, if_pos h]) (by decide), fun h => ⟨fun h2 => err 10 ?_ (by decide), fun h2 => ⟨fun h3 => err 10 ?_ (by decide), fun h3 => ?_⟩⟩⟩
  · simp only [decide_eq_true_eq] at h2
    rw [nbE, if_neg (by rw [h]; decide), if_pos h2]
  · simp only [decide_eq_true_eq, decide_eq_false_iff_not] at h2 h3
    rw [nbE, if_neg (by rw [h]; decide), if_neg h2, if_pos h3]
  · simp only [decide_eq_false_iff_not] at h2 h3
    have hz : nbE room tmo = 0 := by rw [nbE, if_neg (by rw [h]; decide), if_neg h2, if_neg h3]
    refine Re.nilCell 2 1 80 15 (miG []) (by decide) rfl rfl (Re.ren [some 2, some 0, some 1, some 3] rfl rfl rfl (.toDm [] [true, true] (.refl ⟨_, rfl, fun h => absurd hz h, fun _ => rfl⟩)))

end Go.Proofs.Ythckkoledhjmeaa.Ev
