/-
  The ledgers, the program's and the document's: what each function does, in plain words; summaries.
-/
import Derived.Shelf.SlGeneric
import Derived.Shelf.SlLaysF0
import Derived.Ground.SlsfProg
import Derived.Test.YthckkoledhjmeaaProg
import Derived.Shelf.SlSortCmp.NoneTotal
import Derived.Test.YthckkoledhjmeaaE2

/-
  DERIVED: THE SHELF's CONTRACTS AT THIS DUMP, IN PLAIN WORDS (tools/lay-plain.mjs out of 'YthckkoledhjmeaaShelf.lean', which tools/lay-shelf.mjs wrote): THE SAME DECLARATIONS UNDER THE SAME NAMES: 'import', 'namespace', 'open', 'def', 'theorem' AND NOTHING ELSE: no command of the shelf's: FOR A HAND-IN. Each laying: the table of numbers ('.._ren') and one theorem, a field a fact of the dump's own or the kernel's comparison; each contract: ONE APPLICATION.
-/
namespace Go.Proofs
open Go.Shelf
def Try.sortPkt_ren : Go.Shelf.Ren := ⟨fun | 6 => 67 | 15 => 88 | 14 => 87 | 28 => 104 | 29 => 105 | 20 => 96 | 21 => 97 | 22 => 98 | 23 => 99 | 24 => 100 | 25 => 101 | 26 => 102 | 27 => 103 | 46 => 110 | 47 => 111 | 48 => 112 | 49 => 113 | 50 => 114 | 57 => 115 | n => n, fun | 22 => 40 | 24 => 36 | 25 => 120 | 3 => 3 | 39 => 126 | 0 => 0 | 53 => 139 | 55 => 22 | 4 => 4 | 46 => 132 | 45 => 131 | 50 => 136 | 5 => 5 | 9 => 9 | 66 => 142 | 70 => 145 | 76 => 147 | 77 => 148 | n => n, fun | n => n⟩
theorem Try.sortPkt : Go.Proofs.SlLaysF0.n6 Try.prog Try.sortPkt_ren := {
  mixed := by kernel_rfl
  f6 := ⟨Try.f67.name, by decide, Try.func67.trans (congrArg some (by kernel_rfl))⟩
  f14 := ⟨Try.f87.name, by decide, Try.func87.trans (congrArg some (by kernel_rfl))⟩
  f15 := Try.func88.trans (congrArg some (by kernel_rfl))
  f20 := ⟨Try.f96.name, by decide, Try.func96.trans (congrArg some (by kernel_rfl))⟩
  f21 := ⟨Try.f97.name, by decide, Try.func97.trans (congrArg some (by kernel_rfl))⟩
  f22 := ⟨Try.f98.name, by decide, Try.func98.trans (congrArg some (by kernel_rfl))⟩
  f23 := ⟨Try.f99.name, by decide, Try.func99.trans (congrArg some (by kernel_rfl))⟩
  f24 := ⟨Try.f100.name, by decide, Try.func100.trans (congrArg some (by kernel_rfl))⟩
  f25 := ⟨Try.f101.name, by decide, Try.func101.trans (congrArg some (by kernel_rfl))⟩
  f26 := ⟨Try.f102.name, by decide, Try.func102.trans (congrArg some (by kernel_rfl))⟩
  f27 := ⟨Try.f103.name, by decide, Try.func103.trans (congrArg some (by kernel_rfl))⟩
  f28 := Try.func104.trans (congrArg some (by kernel_rfl))
  f29 := Try.func105.trans (congrArg some (by kernel_rfl))
  f46 := ⟨Try.f110.name, by decide, Try.func110.trans (congrArg some (by kernel_rfl))⟩
  f47 := Try.func111.trans (congrArg some (by kernel_rfl))
  f48 := Try.func112.trans (congrArg some (by kernel_rfl))
  f49 := ⟨Try.f113.name, by decide, Try.func113.trans (congrArg some (by kernel_rfl))⟩
  f50 := ⟨Try.f114.name, by decide, Try.func114.trans (congrArg some (by kernel_rfl))⟩
  f57 := ⟨Try.f115.name, by decide, Try.func115.trans (congrArg some (by kernel_rfl))⟩
  t0 := Try.underlying0
  a0 := Try.isAgg0
  z0 := Try.sizeOf0
  v0 := Try.zeroValue0
  t3 := Try.underlying3
  a3 := Try.isAgg3
  z3 := Try.sizeOf3
  v3 := Try.zeroValue3
  t4 := Try.underlying4
  a4 := Try.isAgg4
  z4 := Try.sizeOf4
  v4 := Try.zeroValue4
  t5 := Try.underlying5
  a5 := Try.isAgg5
  z5 := Try.sizeOf5
  v5 := Try.zeroValue5
  t9 := Try.underlying9
  a9 := Try.isAgg9
  z9 := Try.sizeOf9
  v9 := Try.zeroValue9
  t22 := Try.underlying40
  a22 := Try.isAgg40
  z22 := Try.sizeOf40
  v22 := Try.zeroValue40
  t25 := Try.underlying120
  a25 := Try.isAgg120
  z25 := Try.sizeOf120
  v25 := Try.zeroValue120
  t39 := Try.underlying126
  a39 := Try.isAgg126
  z39 := Try.sizeOf126
  v39 := Try.zeroValue126
  t45 := Try.underlying131
  a45 := Try.isAgg131
  z45 := Try.sizeOf131
  v45 := Try.zeroValue131
  t46 := Try.underlying132
  a46 := Try.isAgg132
  z46 := Try.sizeOf132
  v46 := Try.zeroValue132
  t50 := Try.underlying136
  a50 := Try.isAgg136
  z50 := Try.sizeOf136
  v50 := Try.zeroValue136
  t53 := Try.underlying139
  a53 := Try.isAgg139
  z53 := Try.sizeOf139
  v53 := Try.zeroValue139
  t55 := Try.underlying22
  a55 := Try.isAgg22
  z55 := Try.sizeOf22
  v55 := Try.zeroValue22
  t66 := Try.underlying142
  a66 := Try.isAgg142
  z66 := Try.sizeOf142
  v66 := Try.zeroValue142
  t70 := Try.underlying145
  a70 := Try.isAgg145
  z70 := Try.sizeOf145
  v70 := Try.zeroValue145
  t76 := Try.underlying147
  a76 := Try.isAgg147
  z76 := Try.sizeOf147
  v76 := Try.zeroValue147
  t77 := Try.underlying148
  a77 := Try.isAgg148
  z77 := Try.sizeOf148
  v77 := Try.zeroValue148 }
end Go.Proofs

/-
  slices.SortFunc at packets, by their numbers.
-/
namespace Go.Proofs.Ythckkoledhjmeaa.Ev
open Go Go.Proofs Go.Shelf Go.RowKit Go.Lib Go.Sort

def cmpI (x y : Int) : Int := if x < y then -1 else if x > y then 1 else 0
def cmpPk (x y : Pkt) : Int := cmpI x.seq y.seq

set_option maxHeartbeats 1000000 in
theorem compare69 (x y : Int) (W : World) : Calls Try.prog 69 #[.int .u64 x, .int .u64 y] W fun e w' => e = .returned (.int .i64 (cmpI x y)) ∧ w' = W := by
  go_enter Try.func69, Try.ntmps69
  go_wp2
  all_goals
    go_ret
    refine ⟨?_, rfl⟩
    unfold cmpI
    split
    all_goals first | rfl | (exfalso; omega) | (split <;> first | rfl | (exfalso; omega))

set_option maxHeartbeats 1000000 in
theorem closure68 (x y : Pkt) (W : World) : Calls Try.prog 68 #[.agg x.vals.toArray, .agg y.vals.toArray] W fun e w' => e = .returned (.int .i64 (cmpPk x y)) ∧ ∃ q os', w' = grow (W.drewN q) os' := by
  obtain ⟨x1, x2, x3, x4⟩ := x
  obtain ⟨y1, y2, y3, y4⟩ := y
  have hcon := fun W' => compare69 x1 y1 W'
  unfold cmpPk Pkt.vals
  dsimp only
  generalize cmpI x1 y1 = r at hcon ⊢
  go_enter Try.func68, Try.ntmps68
  go_wp2_with (go_at_call 69; refine (hcon _).mono ?_; rintro e w' ⟨rfl, rfl⟩)
  go_ret
  exact ⟨rfl, 0, _, by rw [alloc_eq_grow, alloc_eq_grow, grow_grow]; rfl⟩

instance : Inhabited Pkt := ⟨Pkt.zero⟩

theorem cmpLays68 (blk off size : Nat) (w : World) : CmpLays Try.prog 68 #[] Pkt.vals 4 cmpPk blk off size w := fun _ _ _ _ x y => closure68 x y _

theorem ltPk (x y : Pkt) : ltOf cmpPk x y = decide (x.seq < y.seq) := by
  unfold ltOf cmpPk cmpI
  split
  · rename_i h; simp [h]
  · split
    · rename_i h1 h2; simp [h1]
    · rename_i h1 h2; simp [h1]

theorem swoPk : SWO (ltOf cmpPk) where
  irrefl x := by simp [ltPk]
  trans x y z h1 h2 := by simp only [ltPk, decide_eq_true_eq] at *; omega
  ntrans x y z h1 h2 := by simp only [ltPk, decide_eq_false_iff_not] at *; omega

theorem getBang (d : Array Pkt) (i : Nat) : d[i]! = d.toList.getD i Pkt.zero := by
  rw [List.getD_eq_getElem?_getD, Array.getElem?_toList]
  by_cases h : i < d.size
  · simp [h]
  · simp [h]; rfl

theorem flat_get (es : Array Pkt) (t : Nat) (h : t < es.size * 4) : (flatK Pkt.vals 4 es)[t]! = (pkG es.toList (t / 4))[t % 4]! := by
  rw [get_flatK _ _ _ _ h, getBang]
  rfl

theorem vals_len (p : Pkt) : p.vals.length = 4 := rfl
theorem vals_one (p : Pkt) : ∀ v ∈ p.vals, v.oneCell' = true := by
  intro v hv
  simp only [Pkt.vals, List.mem_cons, List.not_mem_nil, or_false] at hv
  rcases hv with rfl | rfl | rfl | rfl <;> rfl

/-- A row of packets that is not nil holds what the sort asks. -/
theorem holds_row {E : Env} {w : World} {l : Nat} {es : List Pkt} (h : RowR E w l 36 4 es.length (pkG es)) (hn : E.nil l = false) : HoldsK Pkt.vals 4 w (E.blk l) (E.base l) es.toArray := by
  obtain ⟨vs, hv, hs, hm⟩ := h.mem hn
  intro t ht
  have ht' : t < es.length * 4 := by simpa using ht
  have h1 : t / 4 < es.length := by omega
  have h2 : t % 4 < 4 := by omega
  have := hm (t / 4) h1 (t % 4) h2
  refine ⟨?_, by simp [World.frozen?, hv]⟩
  have e1 : E.base l + t / 4 * 4 + t % 4 = E.base l + t := by omega
  rw [e1] at this
  simp only [World.cell?, hv, this, id]
  rw [flat_get es.toArray t (by simpa using ht')]
  have hlen : (pkG es (t / 4)).length = 4 := rfl
  simp only [List.getElem?_eq_getElem (show t % 4 < (pkG es (t / 4)).length by omega)]
  rw [getElem!_pos _ _ (by simpa using (show t % 4 < (pkG es (t / 4)).length by omega))]
  simp

/-- More blocks behind those that there are. -/
theorem step_more {n0 : Nat} {E0 E : Env} {H0 H : Heap} {w0 w w' : World} (h : Step n0 E0 H0 w0 E H w) (h1 : w'.os = w.os) (h2 : w'.tape = w.tape) (h3 : w'.output = w.output) (hs : w.heap.size ≤ w'.heap.size) (hb : ∀ b, b < w.heap.size → w'.heap[b]? = w.heap[b]?) : Step n0 E0 H0 w0 E H w' := by
  refine ⟨h.agree, h.len, ⟨fun l B hl => (h.rep.rep l B hl).kept fun hc => ?_, h.rep.ok, h.rep.inj, h.rep.ro⟩, h1.trans h.os, h2.trans h.tape, h3.trans h.output, Nat.le_trans h.size hs, fun b hb' hn => ?_, h.im⟩
  · rcases hc with hc | ⟨⟨k, m, g, rfl⟩, hn⟩
    · exact hb _ ((h.rep.rep l B hl).lt hc)
    · exact hb _ (ro_lt (h.rep.rep l _ hl) hn)
  · rw [hb b (Nat.lt_of_lt_of_le hb' h.size)]; exact h.frame b hb' hn

theorem sort_step {E : Env} {H : Heap} {w : World} (h : HRep E H w) {l : Nat} {es : List Pkt} (hl : H[l]? = some (.row 36 4 es.length (pkG es))) (hn : E.nil l = false) (d : Array Pkt) (hd : d.size = es.length) (m : Nat) (os : Array Obj) :
    Step H.length E H w E (H.set l (.row 36 4 es.length (pkG d.toList))) (sortWorldK Pkt.vals 4 w (E.blk l) (E.base l) m d os) := by
  have hrow : RowR E w l 36 4 es.length (pkG es) := h.rep l _ hl
  obtain ⟨vs, hv, hs, hm⟩ := hrow.mem hn
  have hcap := hrow.cap hn
  have hblk : E.blk l < w.heap.size := (Array.getElem?_eq_some_iff.1 hv).1
  have hput : ∀ b, (putRowK Pkt.vals 4 (Sort.ahead w m) (E.blk l) (E.base l) d).heap[b]? = if E.blk l = b then some (.cells (putCells id (E.base l) (flatK Pkt.vals 4 d) vs) 36 (0, 0)) else w.heap[b]? := by
    intro b
    simp only [putRowK, putRow, mapBlock, Sort.ahead, Array.getElem?_modify]
    by_cases hb : E.blk l = b
    · subst hb; simp [hv, onCells]
    · simp [hb]
  have hsz : (putRowK Pkt.vals 4 (Sort.ahead w m) (E.blk l) (E.base l) d).heap.size = w.heap.size := by simp [putRowK, putRow, mapBlock, Sort.ahead]
  have h1 : Step H.length E H w E (H.set l (.row 36 4 es.length (pkG d.toList))) (putRowK Pkt.vals 4 (Sort.ahead w m) (E.blk l) (E.base l) d) := by
    refine step_set h hl (by simp [AB.own, hn]) ?_ trivial (fun _ _ _ => by simp) (fun b hb => by rw [hput, if_neg (Ne.symm hb)]) hsz rfl rfl rfl
    refine RowR.mk hrow.pos hrow.nil hrow.cap (fun _ => ⟨_, by rw [hput, if_pos rfl], fun h0 => by simp [putCells]; exact hs h0, fun i hi j hj => ?_⟩) (fun i hi => rfl) (fun i hi => vals_one _)
    have hcapk : (i + 1) * 4 ≤ E.cap l * 4 := by omega
    have hs' := hs (by omega)
    have hlt : E.base l + i * 4 + j < vs.size := by omega
    have hF : (flatK Pkt.vals 4 d).size = es.length * 4 := by simp [hd]
    simp only [putCells, Array.getElem?_mapIdx, Array.getElem?_eq_getElem hlt, Option.map_some, hF]
    rw [if_pos ⟨by omega, by omega⟩]
    have e1 : E.base l + i * 4 + j - E.base l = i * 4 + j := by omega
    rw [e1]
    simp only [id]
    rw [flat_get d (i * 4 + j) (by omega)]
    have e2 : (i * 4 + j) / 4 = i := by omega
    have e3 : (i * 4 + j) % 4 = j := by omega
    rw [e2, e3]
    have hlen : (pkG d.toList i).length = 4 := rfl
    rw [List.getElem?_eq_getElem (by omega), getElem!_pos _ _ (by omega)]
  refine step_more h1 rfl rfl rfl (by simp [sortWorldK, grow]) fun b hb => ?_
  simp only [sortWorldK, grow]
  rw [Array.getElem?_append_left hb]

theorem pairwise_of (d : Array Pkt) (h : SortedIn (ltOf cmpPk) 0 d.size d) : d.toList.Pairwise fun a b => a.seq ≤ b.seq := by
  rw [List.pairwise_iff_getElem]
  intro i j hi hj hij
  have := h i j (Nat.zero_le _) hij (by simpa using hj)
  rw [ltPk, decide_eq_false_iff_not] at this
  have e1 : d[i]! = d.toList[i] := by rw [getElem!_pos d i (by simpa using hi)]; simp
  have e2 : d[j]! = d.toList[j] := by rw [getElem!_pos d j (by simpa using hj)]; simp
  rw [e1, e2] at this
  omega

/-- slices.SortFunc, by the packets' numbers. -/
theorem sort67 (es : List Pkt) (hb : es.length < 4611686018427387904) :
    CallsA Try.prog 67 [.e (.s (.sl 0 4 0 es.length 0)), .e (.s (.fn 68 []))] [.row 36 4 es.length (pkG es)] fun r H' =>
      r = .tup [] ∧ ∃ d : List Pkt, d.Perm es ∧ d.Pairwise (fun a b => a.seq ≤ b.seq) ∧ H' = [.row 36 4 d.length (pkG d)] := by
  intro E w h ha
  have hrow : RowR E w 0 36 4 es.length (pkG es) := h.rep 0 _ rfl
  cases hn : E.nil 0 with
  | true =>
    have h0 : es.length = 0 := hrow.nil hn
    have he : es = [] := List.eq_nil_of_length_eq_zero h0
    subst he
    have hcon := AnyF.slices_SortFunc_none Try.sortPkt none 0 (.func (.func 68) #[] #[]) w
    change Calls Try.prog 67 _ _ _ at hcon
    have e1 : ([AV.e (.s (.sl 0 4 0 ([] : List Pkt).length 0)), .e (.s (.fn 68 []))].map (AV.conc E)).toArray = #[.slice none 0 0, .func (.func 68) #[] #[]] := by simp [AV.conc, EV.conc, SV.conc, hn]
    rw [e1]
    refine hcon.mono ?_
    rintro e w' ⟨rfl, rfl⟩
    exact ⟨.tup [], _, E, rfl, .refl h (Nat.le_refl _), Nat.zero_le _, undef_ok, rfl, [], List.Perm.refl _, List.Pairwise.nil, rfl⟩
  | false =>
    have eg : ∀ args w, (callFunc 68 args).run Try.prog w = .ok (.enter 68 args) w := enters_of Try.func68 (by kernel_rfl) rfl
    have hcon := AnyQ.slices_SortFunc Try.sortPkt 4 Try.isAgg36 Try.sizeOf36 Pkt.vals vals_len vals_one cmpPk swoPk 68 #[] (E.blk 0) (E.base 0) (E.cap 0) es.toArray w eg (cmpLays68 _ _ _ _) (holds_row hrow hn) (by
      obtain ⟨vs, hv, _⟩ := hrow.mem hn
      exact (Array.getElem?_eq_some_iff.1 hv).1) (by simpa using hb)
    change Calls Try.prog 67 _ _ _ at hcon
    have e1 : ([AV.e (.s (.sl 0 4 0 es.length 0)), .e (.s (.fn 68 []))].map (AV.conc E)).toArray = #[.slice (some ⟨E.blk 0, E.base 0, none⟩) es.toArray.size (E.cap 0), .func (.func 68) #[] #[]] := by simp [AV.conc, EV.conc, SV.conc, hn]
    rw [e1]
    refine hcon.mono ?_
    rintro e w' ⟨rfl, d, m, os, hp, hs, rfl⟩
    have hds : d.size = es.length := by simpa using hp.1
    have hst := sort_step h rfl hn d hds m os
    refine ⟨.tup [], _, E, rfl, hst, Nat.zero_le _, undef_ok, rfl, d.toList, ?_, pairwise_of d ?_, ?_⟩
    · have := hp.2.2
      have e2 : List.take es.length d.toList = d.toList := List.take_of_length_le (by simp [hds])
      simpa [hds, e2] using this
    · have := hs
      simpa [hds] using this
    · simp [hds]

end Go.Proofs.Ythckkoledhjmeaa.Ev

/-
  The abstract evaluator's trees: what stands ahead of, and behind, ledger.some's loop.
-/
namespace Go.Proofs.Ythckkoledhjmeaa.Ev
open Go

noncomputable def ops2 : Array Oper := opsOf (r41 [false, false, true, true])
noncomputable def pre4 : List Oper := ops2.toList.take 4
noncomputable def rg : Oper := ops2.toList.getD 4 noOp

theorem ops2_list : ops2.toList = pre4 ++ [rg] := by kernel_rfl
theorem rg_op : rg.op = .range 84 (.tmp 11) := by kernel_rfl
theorem rg_dst : rg.dst = some 12 := by kernel_rfl
theorem rg_guard : rg.guard = none := by kernel_rfl

def endR (live : List Nat) (N : Nat) (σ : St) : T (List AV × Heap) :=
  match Nat.beq σ.fr.length N with
  | true => .ret (slim live σ.fr, σ.H)
  | false => .fail

/-- What stands ahead of 'range'. -/
noncomputable def pre41 (n0 : Nat) (σ : St) : T (List AV × Heap) :=
  codeT Try.prog (callT Try.prog (entL eS) 1) oN n0 0 (r41 [true]) σ fun e σ => match e with
    | .normal => codeT Try.prog (callT Try.prog (entL eS) 1) oN n0 0 (r41 [false, true]) σ fun e σ => match e with
      | .normal => regT Try.prog (callT Try.prog (entL eS) 1) ops2 pre4 σ (endR [1, 5, 11] 27)
      | _ => .fail
    | _ => .fail

def fr0 (f : SV) : List AV := [.e (.s (.ptr 0 0)), .e (.s f)] ++ List.replicate 25 undefA

noncomputable def tP2 (L : LSt) (f : SV) : T (List AV × Heap) := pre41 2 ⟨fr0 f, [.cells 86 (lc L 1), .pm L.es]⟩

theorem tP2_eq (L : LSt) (f : SV) : tP2 L f =
    T.ret
      ([AV.e (EV.s f), AV.e (EV.s (SV.c (Value.slice none 0 0))), AV.e (EV.s (SV.mp 1))],
        [AB.cells 86
            [SV.d (Value.int IntKind.i64 L.room), SV.d (Value.int IntKind.u64 L.first), SV.d (Value.int IntKind.u64 L.next),
              SV.d (Value.int IntKind.i64 L.last), SV.mp 1],
          AB.pm L.es]) := by kernel_rfl


noncomputable def tP4 (L : LSt) (att tmo : Int) (f : SV) : T (List AV × Heap) := pre41 4 ⟨fr0 f, [.cells 86 (lc L 1), .pm L.es, .cells 3 [.d (.int .i64 att)], .cells 3 [.d (.int .i64 tmo)]]⟩

theorem tP4_eq (L : LSt) (att tmo : Int) (f : SV) : tP4 L att tmo f =
    T.ret
      ([AV.e (EV.s f), AV.e (EV.s (SV.c (Value.slice none 0 0))), AV.e (EV.s (SV.mp 1))],
        [AB.cells 86
            [SV.d (Value.int IntKind.i64 L.room), SV.d (Value.int IntKind.u64 L.first), SV.d (Value.int IntKind.u64 L.next),
              SV.d (Value.int IntKind.i64 L.last), SV.mp 1],
          AB.pm L.es, AB.cells 3 [SV.d (Value.int IntKind.i64 att)], AB.cells 3 [SV.d (Value.int IntKind.i64 tmo)]]) := by kernel_rfl


/-- What stands behind the loop. -/
noncomputable def post41 (n0 : Nat) (σ : St) : T (AV × Heap) :=
  codeT Try.prog (callT Try.prog (entL eS) 1) oN n0 0 (r41 [false, false, false]) σ fun e σ => match e with
    | .ret => retT Try.prog Try.f41 n0 σ fun r H => .ret (r, H)
    | _ => .fail

noncomputable def tQ2 (L : LSt) (f it : SV) (vs : Nat → Value) (n : Nat) (g : Nat → List Value) : T (AV × Heap) := post41 2 ⟨fat [1, 5, 12] vs [.e (.s f), .e (.s (.sl 2 4 0 n 0)), .e (.s it)] 27 0, [.cells 86 (lc L 1), .pm L.es, .row 36 4 n g]⟩

theorem tQ2_eq (L : LSt) (f it : SV) (vs : Nat → Value) (n : Nat) (g : Nat → List Value) : tQ2 L f it vs n g =
    T.call 67 [AV.e (EV.s (SV.sl 2 4 0 n 0)), AV.e (EV.s (SV.fn 68 []))]
      [AB.cells 86
          [SV.d (Value.int IntKind.i64 L.room), SV.d (Value.int IntKind.u64 L.first), SV.d (Value.int IntKind.u64 L.next),
            SV.d (Value.int IntKind.i64 L.last), SV.mp 1],
        AB.pm L.es, AB.row 36 4 n g]
      (T.go [] (tQ2 L f it vs n g)).kontC := by kernel_rfl


noncomputable def tQ4 (L : LSt) (att tmo : Int) (f it : SV) (vs : Nat → Value) (n : Nat) (g : Nat → List Value) : T (AV × Heap) := post41 4 ⟨fat [1, 5, 12] vs [.e (.s f), .e (.s (.sl 4 4 0 n 0)), .e (.s it)] 27 0, [.cells 86 (lc L 1), .pm L.es, .cells 3 [.d (.int .i64 att)], .cells 3 [.d (.int .i64 tmo)], .row 36 4 n g]⟩

theorem tQ4_eq (L : LSt) (att tmo : Int) (f it : SV) (vs : Nat → Value) (n : Nat) (g : Nat → List Value) : tQ4 L att tmo f it vs n g =
    T.call 67 [AV.e (EV.s (SV.sl 4 4 0 n 0)), AV.e (EV.s (SV.fn 68 []))]
      [AB.cells 86
          [SV.d (Value.int IntKind.i64 L.room), SV.d (Value.int IntKind.u64 L.first), SV.d (Value.int IntKind.u64 L.next),
            SV.d (Value.int IntKind.i64 L.last), SV.mp 1],
        AB.pm L.es, AB.cells 3 [SV.d (Value.int IntKind.i64 att)], AB.cells 3 [SV.d (Value.int IntKind.i64 tmo)],
        AB.row 36 4 n g]
      (T.go [] (tQ4 L att tmo f it vs n g)).kontC := by kernel_rfl


noncomputable def tQ2k (L : LSt) (f it : SV) (vs : Nat → Value) (n : Nat) (g g' : Nat → List Value) : T (AV × Heap) := (tQ2 L f it vs n g).kontC (.tup []) [.cells 86 (lc L 1), .pm L.es, .row 36 4 n g']

theorem tQ2k_eq (L : LSt) (f it : SV) (vs : Nat → Value) (n : Nat) (g g' : Nat → List Value) : tQ2k L f it vs n g g' =
    T.ret
      (AV.e (EV.s (SV.sl 2 4 0 n 0)),
        [AB.cells 86
            [SV.d (Value.int IntKind.i64 L.room), SV.d (Value.int IntKind.u64 L.first), SV.d (Value.int IntKind.u64 L.next),
              SV.d (Value.int IntKind.i64 L.last), SV.mp 1],
          AB.pm L.es, AB.row 36 4 n g']) := by kernel_rfl


noncomputable def tQ4k (L : LSt) (att tmo : Int) (f it : SV) (vs : Nat → Value) (n : Nat) (g g' : Nat → List Value) : T (AV × Heap) := (tQ4 L att tmo f it vs n g).kontC (.tup []) [.cells 86 (lc L 1), .pm L.es, .cells 3 [.d (.int .i64 att)], .cells 3 [.d (.int .i64 tmo)], .row 36 4 n g']

theorem tQ4k_eq (L : LSt) (att tmo : Int) (f it : SV) (vs : Nat → Value) (n : Nat) (g g' : Nat → List Value) : tQ4k L att tmo f it vs n g g' =
    T.ret
      (AV.e (EV.s (SV.sl 4 4 0 n 0)),
        [AB.cells 86
            [SV.d (Value.int IntKind.i64 L.room), SV.d (Value.int IntKind.u64 L.first), SV.d (Value.int IntKind.u64 L.next),
              SV.d (Value.int IntKind.i64 L.last), SV.mp 1],
          AB.pm L.es, AB.cells 3 [SV.d (Value.int IntKind.i64 att)], AB.cells 3 [SV.d (Value.int IntKind.i64 tmo)],
          AB.row 36 4 n g']) := by kernel_rfl


end Go.Proofs.Ythckkoledhjmeaa.Ev

/-
  ledger.some, for any closure that parts the packets.
-/
namespace Go.Proofs.Ythckkoledhjmeaa.Ev
open Go

theorem wpList_app {P : Program} {ops : Array Oper} {Q : Exit → Act → World → Prop} {l2 : List Oper} : ∀ (l1 : List Oper) (a : Act) (w : World), wpList P ops (Exit.then (wpList P ops Q l2) Q) l1 a w → wpList P ops Q (l1 ++ l2) a w
  | [], a, w, h => h
  | o :: l1, a, w, h => by
    rw [List.cons_append]
    unfold wpList at h ⊢
    split at h
    · rename_i hw
      rw [if_pos hw]
      rcases h with h | ⟨h1, a', w', h2⟩
      · refine .inl ?_
        unfold Oper.wp at *
        generalize (execOp a.eval o).run P w = r at *
        cases r with
        | ok n w' =>
          cases n <;> simp only [Oper.upon] at h ⊢ <;>
            first
              | exact wpList_app l1 _ _ h
              | exact Calls.mono h (fun e w'' he => by cases e <;> first | exact wpList_app l1 _ _ he | exact he)
              | exact Rows.mono h (fun _ _ he => wpList_app l1 _ _ he)
        | halt x w' => cases x <;> simp only [Oper.upon] at h ⊢ <;> exact h
      · exact .inr ⟨h1, a', w', h2⟩
    · rename_i hw
      rw [if_neg hw]
      exact wpList_app l1 _ _ h

theorem body_f41 : Try.f41.body = some (bodyOf Try.prog 41) := by kernel_rfl
theorem r41a_ok : codeB oN (r41 [true]) = true := by kernel_rfl
theorem r41b_ok : codeB oN (r41 [false, true]) = true := by kernel_rfl
theorem r41c_ok : codeB oN (r41 [false, false, false]) = true := by kernel_rfl

/-- 'range' over a map of packets. -/
theorem run_range {P : Program} {w : World} {t k e : TypeId} (ht : P.underlying t = some (.map k e)) {bm clock : Nat} {ents : Array MapEntry} (hb : w.heap[bm]? = some (.map ents clock)) :
    (Instr.range t (.map (some bm))).run P w = .ok (.pointer (some ⟨w.heap.size, 0, none⟩)) (w.alloc (.mapIter (some bm) clock #[] clock)) := by
  simp [Instr.range, run_underlying ht, getObj_map hb]

theorem map_facts {es : List Pkt} {ents : Array MapEntry} {clock : Nat} (h : MapR es ents clock) :
    ∃ pkO : MapEntry → Pkt, (∀ e ∈ ents.toList, e.key = .int .u64 (pkO e).seq ∧ e.val = .agg (pkO e).vals.toArray) ∧ ents.toList.map pkO = es := by
  refine ⟨fun e => match e.val with | .agg cs => decPkt cs.toList | _ => Pkt.zero, ?_, ?_⟩
  · intro e he
    have : (e.key, e.val) ∈ ents.toList.map (fun e => (e.key, e.val)) := List.mem_map.2 ⟨e, he, rfl⟩
    rw [h.kv] at this
    obtain ⟨p, _, hp⟩ := List.mem_map.1 this
    simp only [Prod.mk.injEq] at hp
    refine ⟨?_, ?_⟩
    · rw [← hp.1]; simp only [← hp.2]; rfl
    · simp only [← hp.2]; rfl
  · have := congrArg (List.map fun x : Value × Value => match x.2 with | .agg cs => decPkt cs.toList | _ => Pkt.zero) h.kv
    simp only [List.map_map] at this
    have e2 : ((fun x : Value × Value => match x.2 with | .agg cs => decPkt cs.toList | _ => Pkt.zero) ∘ fun p : Pkt => (Value.int .u64 p.seq, Value.agg p.vals.toArray)) = id := by funext p; rfl
    rw [e2, List.map_id] at this
    exact this

/-- What is asked of the trees. -/
structure Some41 (N : Nat) (H Hb : Heap) (f : SV) (es : List Pkt) (pred : Pkt → Bool) : Prop where
  pm : H[1]? = some (.pm es)
  len : H.length = N
  pos : 1 < N
  hb : H.set 1 .dead = Hb
  ro : noRo H = true
  round : Round41 Hb f pred
  pre : pre41 N ⟨fr0 f, H⟩ = .ret ([.e (.s f), .c (.slice none 0 0), .e (.s (.mp 1))], H)
  post : ∀ (it : SV) (vs : Nat → Value) (n : Nat) (g : Nat → List Value), ∃ k, post41 N ⟨fat [1, 5, 12] vs [.e (.s f), .e (.s (.sl N 4 0 n 0)), .e (.s it)] 27 0, H ++ [.row 36 4 n g]⟩ = .call 67 [.e (.s (.sl N 4 0 n 0)), .e (.s (.fn 68 []))] (H ++ [.row 36 4 n g]) k ∧
    ∀ g', k (.tup []) (H ++ [.row 36 4 n g']) = .ret (.e (.s (.sl N 4 0 n 0)), H ++ [.row 36 4 n g'])

set_option maxRecDepth 100000 in
theorem some41_open (L : LSt) : Some41 2 [.cells 86 (lc L 1), .pm L.es] [.cells 86 (lc L 1), .dead] (.fn 44 []) L.es (fun _ => true) where
  pm := rfl
  len := rfl
  pos := by decide
  hb := rfl
  ro := rfl
  round := by
    have h := round41_open L
    exact h
  pre := (tP2_eq L (.fn 44 []) :)
  post it vs n g := by
    have e := tQ2_eq L (.fn 44 []) it vs n g
    refine ⟨(tQ2 L (.fn 44 []) it vs n g).kontC, ?_, fun g' => ?_⟩
    · exact (e :)
    · have e := tQ2k_eq L (.fn 44 []) it vs n g g'
      exact (e :)

set_option maxRecDepth 100000 in
theorem some41_expire (L : LSt) (att tmo : Int) : Some41 4 [.cells 86 (lc L 1), .pm L.es, .cells 3 [.d (.int .i64 att)], .cells 3 [.d (.int .i64 tmo)]] [.cells 86 (lc L 1), .dead, .cells 3 [.d (.int .i64 att)], .cells 3 [.d (.int .i64 tmo)]] (.fn 42 [(2, 0), (3, 0)]) L.es (overB att tmo) where
  pm := rfl
  len := rfl
  pos := by decide
  hb := rfl
  ro := rfl
  round := by
    have h := round41_expire L att tmo
    exact h
  pre := (tP4_eq L att tmo (.fn 42 [(2, 0), (3, 0)]) :)
  post it vs n g := by
    have e := tQ4_eq L att tmo (.fn 42 [(2, 0), (3, 0)]) it vs n g
    refine ⟨(tQ4 L att tmo (.fn 42 [(2, 0), (3, 0)]) it vs n g).kontC, ?_, fun g' => ?_⟩
    · exact (e :)
    · have e := tQ4k_eq L att tmo (.fn 42 [(2, 0), (3, 0)]) it vs n g g'
      exact (e :)

end Go.Proofs.Ythckkoledhjmeaa.Ev

/-
  ledger.some, for any closure that parts the packets: what the call does.
-/
namespace Go.Proofs.Ythckkoledhjmeaa.Ev
open Go

theorem fr0_rep {E : Env} {N : Nat} {f : SV} (hN : 0 < N) (hf : f.ref ≤ N) (hok : f.ok E) :
    FRep E N (fr0 f) { tmps := ([AV.e (.s (.ptr 0 0)), .e (.s f)].map (AV.conc E)).toArray ++ Array.replicate (27 - 2) undef, defers := [] } := by
  refine ⟨?_, ?_, ?_, rfl⟩
  · simp [fr0, AV.conc, undef]
  · intro x hx
    simp only [fr0, List.mem_append, List.mem_cons, List.not_mem_nil, or_false] at hx
    rcases hx with (rfl | rfl) | hx
    · exact hN
    · exact hf
    · rw [List.eq_of_mem_replicate hx]; exact Nat.zero_le _
  · intro x hx
    simp only [fr0, List.mem_append, List.mem_cons, List.not_mem_nil, or_false] at hx
    rcases hx with (rfl | rfl) | hx
    · exact ok_s.2 trivial
    · exact ok_s.2 hok
    · rw [List.eq_of_mem_replicate hx]; exact undef_ok

theorem und84 : ∃ k e, Try.prog.underlying 84 = some (.map k e) := ⟨_, _, Try.underlying84⟩

theorem noRo_set : ∀ {H : Heap} {l : Nat}, noRo H = true → noRo (H.set l .dead) = true
  | [], _, _ => rfl
  | B :: H, 0, h => by
    cases B with
    | ro k n g => cases h
    | cells ty cs => exact h
    | row ty k n g => exact h
    | lit ty k ch => exact h
    | pm es => exact h
    | dead => exact h
  | B :: H, l + 1, h => by
    cases B with
    | ro k n g => cases h
    | cells ty cs => exact noRo_set (H := H) h
    | row ty k n g => exact noRo_set (H := H) h
    | lit ty k ch => exact noRo_set (H := H) h
    | pm es => exact noRo_set (H := H) h
    | dead => exact noRo_set (H := H) h

/-- The sort, at a row that lies last. -/
theorem sort_last (H : Heap) (es : List Pkt) (hb : es.length < 4611686018427387904) :
    CallsA Try.prog 67 [.e (.s (.sl H.length 4 0 es.length 0)), .e (.s (.fn 68 []))] (H ++ [.row 36 4 es.length (pkG es)]) fun r H' =>
      r = .tup [] ∧ ∃ d : List Pkt, d.Perm es ∧ d.Pairwise (fun a b => a.seq ≤ b.seq) ∧ H' = H ++ [.row 36 4 d.length (pkG d)] := by
  refine CallsA.lift (args0 := [.e (.s (.sl 0 4 0 es.length 0)), .e (.s (.fn 68 []))]) (H0 := [.row 36 4 es.length (pkG es)]) [H.length] ?_ ?_ rfl (sort67 es hb) ?_ ?_
  · simp [renFr, AV.ren, EV.ren, SV.ren, posOf, renCaps]
  · simp [renH, AB.ren]
  · rintro r H' ⟨_, d, _, _, rfl⟩; rfl
  · rintro r H' ⟨rfl, d, h1, h2, rfl⟩
    refine ⟨rfl, d, h1, h2, ?_⟩
    simp [backH, backSet, AB.by]

set_option maxRecDepth 100000 in
theorem some41 {N : Nat} {H Hb : Heap} {f : SV} {es : List Pkt} {pred : Pkt → Bool} (S : Some41 N H Hb f es pred) (hmost : es.length ≤ most) :
    CallsA Try.prog 41 [.e (.s (.ptr 0 0)), .e (.s f)] H fun r H' => ∃ d : List Pkt, d.Perm (es.filter pred) ∧ d.Pairwise (fun a b => a.seq ≤ b.seq) ∧ r = .e (.s (.sl N 4 0 d.length 0)) ∧ H' = H ++ [.row 36 4 d.length (pkG d)] := by
  intro E w h ha
  have hlen := S.len
  have hf0 := ha (.e (.s f)) (by simp)
  have hfr := fr0_rep (E := E) (N := H.length) (f := f) (by rw [hlen]; exact Nat.lt_trans Nat.zero_lt_one S.pos) hf0.1 (ok_s.1 hf0.2)
  have hpre : (pre41 N ⟨fr0 f, H⟩).sat Try.prog (fun x => x = ([.e (.s f), .c (.slice none 0 0), .e (.s (.mp 1))], H)) := by rw [S.pre]; rfl
  unfold pre41 at hpre
  refine calls_of_wp Try.func41 body_f41 ?_
  rw [body41]
  refine wp_seq (wp_mono (code_sat fine (call_sat fine eSok.ent 1) (r41 [true]) E ⟨fr0 f, H⟩ _ w _ r41a_ok h hfr (Nat.le_of_eq hlen.symm) hpre) ?_)
  rintro e a1 w1 ⟨σ1, E1, s1, f1, q1⟩
  cases e with
  | normal =>
    refine wp_seq (wp_mono (code_sat fine (call_sat fine eSok.ent 1) (r41 [false, true]) E1 σ1 a1 w1 _ r41b_ok s1.rep f1 s1.len q1) ?_)
    rintro e a2 w2 ⟨σ2, E2, s2, f2, q2⟩
    cases e with
    | normal =>
      refine wp_seq (wp_seq (wp_region_list ?_))
      show wpList _ ops2 _ ops2.toList _ _
      rw [ops2_list]
      refine wpList_app pre4 _ _ (wpList_imp ?_ _ _ _ (reg_sat fine (call_sat fine eSok.ent 1) pre4 s2.rep f2 q2))
      rintro e a3 w3 ⟨σ3, E3, rfl, s3, f3, q3⟩
      unfold endR at q3
      split at q3
      · rename_i hb27
        have hl27 := Nat.eq_of_beq_eq_true hb27
        have hx : slim [1, 5, 11] σ3.fr = [.e (.s f), .c (.slice none 0 0), .e (.s (.mp 1))] ∧ σ3.H = H := by
          have := (Prod.mk.injEq _ _ _ _).mp q3
          exact this
        obtain ⟨hx, hH⟩ := hx
        have s123 : Step N E H w E3 σ3.H w3 := (s1.trans s2 (Nat.le_refl _)).trans s3 s2.len
        rw [hH] at s123 f3
        -- the map, and its iterator
        obtain ⟨ents, clock, hmap, hmr⟩ := s123.rep.rep 1 _ S.pm
        obtain ⟨pkO, hkv, hpk⟩ := map_facts hmr
        obtain ⟨kt, et, h84⟩ := und84
        have h11 : a3.eval (.tmp 11) = .map (some (E3.blk 1)) := by
          rw [f3.eval]
          have : opnd σ3.fr (.tmp 11) = .e (.s (.mp 1)) := congrArg (fun l : List AV => l.getD 2 undefA) hx
          rw [this]
          rfl
        refine wpList_go rg_guard (v := .pointer (some ⟨w3.heap.size, 0, none⟩)) (w' := w3.alloc (.mapIter (some (E3.blk 1)) clock #[] clock)) (by
          simp only [execOp, rg_op, h11, Sem.run_bind, run_range h84 hmap, Result.andThen_ok, Sem.run_pure]) ?_
        rw [rg_dst]
        have hHb : Hb.length = N := by rw [← S.hb, List.length_set, S.len]
        have hbm : E3.blk 1 < w3.heap.size := (Array.getElem?_eq_some_iff.1 hmap).1
        have sd := step_dead s123.rep 1
        rw [S.hb] at sd
        have sn := push_nil sd.rep (t := 36) (k := 4) (g := pkG []) (by decide)
        have g1 : opnd σ3.fr (.tmp 1) = .e (.s f) := congrArg (fun l : List AV => l.getD 0 undefA) hx
        have g5 : opnd σ3.fr (.tmp 5) = .c (.slice none 0 0) := congrArg (fun l : List AV => l.getD 1 undefA) hx
        have hfr : f.ref ≤ N := by have := f3.opnd_ref (.tmp 1); rw [g1, S.len] at this; exact this
        have hfo : f.ok E3 := by have := f3.opnd_ok (.tmp 1); rw [g1] at this; exact ok_s.1 this
        have f4 := (f3.put (some 12) (.d (.pointer (some ⟨w3.heap.size, 0, none⟩))) (Nat.zero_le _) (ok_s.2 trivial))
        obtain ⟨vs0, f5⟩ := f4.slim [1, 5, 12]
        have hsl : slim [1, 5, 12] (put σ3.fr (some 12) (.d (.pointer (some ⟨w3.heap.size, 0, none⟩)))) = [.e (.s f), .c (.slice none 0 0), .d (.pointer (some ⟨w3.heap.size, 0, none⟩))] := by
          simp only [slim, List.map_cons, List.map_nil, put, List.cons.injEq, and_true]
          refine ⟨?_, ?_, ?_⟩
          · rw [← g1]; simp [opnd]
          · rw [← g5]; simp [opnd]
          · simp [hl27]
        have hln : (put σ3.fr (some 12) (.d (.pointer (some ⟨w3.heap.size, 0, none⟩)))).length = 27 := by simp [put, hl27]
        rw [hsl, hln] at f5
        have f6 := f5.fat (E2 := E3.push Hb.length 0 0 0 true) (n2 := Hb.length + 1) (ys := xs41 f Hb.length 0 w3.heap.size) (by
          have : f.conc (E3.push Hb.length 0 0 0 true) = f.conc E3 := SV.conc_agree sn.agree (by rw [hHb]; exact hfr)
          have e2 : (SV.sl Hb.length 4 0 0 0).conc (E3.push Hb.length 0 0 0 true) = .slice none 0 0 := by simp [SV.conc]
          simp only [xs41, List.map_cons, List.map_nil, AV.conc, EV.conc, this, e2]
          rfl) (by
          intro x hx
          simp only [xs41, List.mem_cons, List.not_mem_nil, or_false] at hx
          rcases hx with rfl | rfl | rfl
          · exact ⟨by rw [hHb]; exact Nat.le_succ_of_le hfr, ok_s.2 (SV.ok_agree sn.agree (by rw [hHb]; exact hfr) hfo)⟩
          · exact ⟨Nat.le_refl _, ok_s.2 ⟨fun _ => rfl, fun hh => by simp at hh⟩⟩
          · exact ⟨Nat.zero_le _, ok_s.2 trivial⟩)
        have sw : Step Hb.length E3 Hb w3 (E3.push Hb.length 0 0 0 true) (Hb ++ [.row 36 4 0 (pkG [])]) (w3.alloc (.mapIter (some (E3.blk 1)) clock #[] clock)) := step_alloc_out sn _
        have hri : ¬ Im (E3.push Hb.length 0 0 0 true) (Hb ++ [.row 36 4 0 (pkG [])]) w3.heap.size := fun hi => Nat.lt_irrefl _ (Im.lt sn.rep hi)
        have hbi : ¬ Im E3 Hb (E3.blk 1) := by
          rintro ⟨x, C, hxc, ho, he⟩
          rw [← S.hb] at hxc
          rcases get_set hxc with ⟨k1, k2⟩ | ⟨_, rfl, _⟩
          · exact k1 (s123.rep.inj x 1 C _ k2 S.pm ho rfl he)
          · cases ho
        have hroHb : noRo Hb = true := by rw [← S.hb]; exact noRo_set S.ro
        have hit : Iter (w3.alloc (.mapIter (some (E3.blk 1)) clock #[] clock)) w3.heap.size (E3.blk 1) ents clock ents.toList := by
          refine ⟨by rw [heap_kept w3 _ _ hbm]; exact hmap, clock, #[], clock, heap_alloc_new w3 _, Nat.le_refl _, Nat.le_refl _, fun x hx => hmr.young x hx, ?_⟩
          simp [leftOf]; exact (List.filter_eq_self.2 fun _ _ => rfl).symm
        have hle : ents.toList.length = es.length := by rw [← hpk, List.length_map]
        have hrounds := rounds41 (E0 := E3) (w0 := w3) (f := f) hmr.born (by omega) (Nat.le_refl _) hbm hbi hroHb pred pkO hkv S.round (ents.toList.length + 1) ents.toList [] (E3.push Hb.length 0 0 0 true) _ _ vs0 (by omega) (by simp only [List.length_nil]; omega) hit sw f6 hri
        refine wp_block (wp_mono (wp_loop_rounds _ hrounds) ?_)
        rintro e a5 w5 ⟨out, E5, vs5, rfl, s5, f7, hmap5, hperm⟩
        simp only [Exit.inBlock, if_true, Exit.then]
        rw [hpk, List.nil_append] at hperm
        have hlt1 : 1 < H.length := by rw [hlen]; exact S.pos
        have hset : (H ++ [AB.row 36 4 out.length (pkG out)]).set 1 .dead = Hb ++ [AB.row 36 4 out.length (pkG out)] := by
          rw [List.set_append_left _ _ hlt1, S.hb]
        have hshow : Step N E3 H w3 E5 (H ++ [AB.row 36 4 out.length (pkG out)]) w5 := by
          refine step_show (l := 1) s123.rep S.pm S.pos ?_ ?_ ?_ ?_
          · rw [S.hb, hset, ← hHb]; exact s5
          · rw [List.getElem?_append_left hlt1]; exact S.pm
          · rw [hmap5, hmap]
          · exact noRo_app S.ro rfl
        have sall : Step N E H w E5 (H ++ [AB.row 36 4 out.length (pkG out)]) w5 := s123.trans hshow (Nat.le_refl _)
        have hol : out.length ≤ es.length := by rw [hperm.length_eq]; exact List.length_filter_le _ _
        obtain ⟨k, hk1, hk2⟩ := S.post (.d (.pointer (some ⟨w3.heap.size, 0, none⟩))) vs5 out.length (pkG out)
        have hpost : (post41 N ⟨fat [1, 5, 12] vs5 [.e (.s f), .e (.s (.sl N 4 0 out.length 0)), .e (.s (.d (.pointer (some ⟨w3.heap.size, 0, none⟩))))] 27 0, H ++ [.row 36 4 out.length (pkG out)]⟩).sat Try.prog fun x =>
            ∃ d : List Pkt, d.Perm (es.filter pred) ∧ d.Pairwise (fun a b => a.seq ≤ b.seq) ∧ x.1 = .e (.s (.sl N 4 0 d.length 0)) ∧ x.2 = H ++ [.row 36 4 d.length (pkG d)] := by
          rw [hk1]
          have hs := sort_last H out (by unfold most at hmost; omega)
          rw [hlen] at hs
          refine CallsA.mono hs ?_
          rintro r H' ⟨rfl, d, d1, d2, rfl⟩
          have hdl := d1.length_eq
          rw [hdl, hk2]
          exact ⟨d, d1.trans hperm, d2, by rw [hdl], by rw [hdl]⟩
        unfold post41 at hpost
        rw [hHb] at f7
        have f8 : FRep E5 (H ++ [AB.row 36 4 out.length (pkG out)]).length (fat [1, 5, 12] vs5 [.e (.s f), .e (.s (.sl N 4 0 out.length 0)), .e (.s (.d (.pointer (some ⟨w3.heap.size, 0, none⟩))))] 27 0) a5 := by
          have : (H ++ [AB.row 36 4 out.length (pkG out)]).length = N + 1 := by simp [hlen]
          rw [this]
          exact f7
        refine wp_mono (code_sat fine (call_sat fine eSok.ent 1) (r41 [false, false, false]) E5 ⟨_, H ++ [.row 36 4 out.length (pkG out)]⟩ a5 w5 _ r41c_ok sall.rep f8 sall.len hpost) ?_
        rintro e a6 w6 ⟨σ6, E6, s6, f9, q6⟩
        cases e with
        | ret =>
          obtain ⟨r, H', v1, v2, v3, v4, d, v5, v6, v7, v8⟩ := ret_sat Try.f41 (sall.trans s6 (Nat.le_refl _)) f9 q6
          rw [hlen]
          exact ⟨f9.defers, _, v1, r, H', E6, rfl, v2, v3, v4, d, v5, v6, v7, v8⟩
        | normal => exact q6.elim
        | exit id => exact q6.elim
        | goto l => exact q6.elim
        | panic ch => exact q6.elim
        | outgrown => exact q6.elim
      · exact q3.elim
    | exit id => exact q2.elim
    | goto l => exact q2.elim
    | ret => exact q2.elim
    | panic ch => exact q2.elim
    | outgrown => exact q2.elim
  | exit id => exact q1.elim
  | goto l => exact q1.elim
  | ret => exact q1.elim
  | panic ch => exact q1.elim
  | outgrown => exact q1.elim

end Go.Proofs.Ythckkoledhjmeaa.Ev

/-
  The abstract evaluator's trees: a ledger's functions, the program's and the document's.
-/
namespace Go.Proofs.Ythckkoledhjmeaa.Ev
open Go

/-- The document's ledger: its row lies in block lr. -/
def rc (L : LSt) (lr n : Nat) : List SV := [.d (.int .i64 L.room), .d (.int .u64 L.first), .d (.int .u64 L.next), .d (.int .i64 L.last), .sl lr 4 0 n 0]

def e12 : List (Nat × Ent) := [(12, .body o12 0)]
def e13 : List (Nat × Ent) := [(13, .body o13 0), (39, .body oN 0), (40, .body oN 0)]
def e14 : List (Nat × Ent) := [(14, .body oN 0)]
def e15 : List (Nat × Ent) := [(15, .body oN 0)]
def e17 : List (Nat × Ent) := [(17, .body o17 0)]
def e43 : List (Nat × Ent) := [(43, .body oN 0)]

/-- Is a number one of 64 bits? -/
def I64 (x : Int) : Prop := -9223372036854775808 ≤ x ∧ x < 9223372036854775808

/-- Is a packet's time over? -/
def overX (att tmo : Int) (p : Pkt) : Bool := decide (att - p.sent ≥ tmo)

def pk4 : List SV → Option Pkt
  | [a, b, c, d] => match a.num, b.num, c.num, d.num with
    | some (.u64, a), some (.i64, b), some (.i64, c), some (.i64, d) => some ⟨a, b, c, d⟩
    | _, _, _, _ => none
  | _ => none

def numA : AV → Option (IntKind × Int)
  | .e (.s x) => x.num
  | _ => none

def s43 (args : List AV) (H : Heap) : T (AV × Heap) :=
  match args with
  | [.e (.agg cs), a, b] => match pk4 cs, numA a, numA b with
    | some p, some (.i64, att), some (.i64, tmo) => .need (I64 att ∧ I64 tmo ∧ 0 ≤ p.sent ∧ p.sent ≤ 1099511627776) (.ret (.d (.bool (overX att tmo p)), H))
    | _, _, _ => .fail
  | _ => .fail

noncomputable def t43 (att tmo : Int) (p : Pkt) : T (AV × Heap) := callT Try.prog (entL e43) 1 43 [.e (.agg p.cells), .d (.int .i64 att), .d (.int .i64 tmo)] [] fun r H' => .ret (r, H')

theorem t43_eq (att tmo : Int) (p : Pkt) : t43 att tmo p =
    T.ite (decide (tmo < 0))
      (T.ite (decide (att ≥ 0))
        (T.ite (decide (IntKind.i64.wrap (att - tmo) < 0)) (T.ret (AV.e (EV.s (SV.c (Value.bool true))), []))
          (T.ite (decide (tmo > 0))
            (T.ite (decide (att < 0))
              (T.ite (decide (IntKind.i64.wrap (att - tmo) ≥ 0)) (T.ret (AV.e (EV.s (SV.c (Value.bool false))), []))
                (T.ite (decide (p.sent ≤ IntKind.i64.wrap (att - tmo))) (T.ret (AV.e (EV.s (SV.c (Value.bool true))), []))
                  (T.ret (AV.e (EV.s (SV.c (Value.bool false))), []))))
              (T.ite (decide (p.sent ≤ IntKind.i64.wrap (att - tmo))) (T.ret (AV.e (EV.s (SV.c (Value.bool true))), []))
                (T.ret (AV.e (EV.s (SV.c (Value.bool false))), []))))
            (T.ite (decide (p.sent ≤ IntKind.i64.wrap (att - tmo))) (T.ret (AV.e (EV.s (SV.c (Value.bool true))), []))
              (T.ret (AV.e (EV.s (SV.c (Value.bool false))), [])))))
        (T.ite (decide (tmo > 0))
          (T.ite (decide (att < 0))
            (T.ite (decide (IntKind.i64.wrap (att - tmo) ≥ 0)) (T.ret (AV.e (EV.s (SV.c (Value.bool false))), []))
              (T.ite (decide (p.sent ≤ IntKind.i64.wrap (att - tmo))) (T.ret (AV.e (EV.s (SV.c (Value.bool true))), []))
                (T.ret (AV.e (EV.s (SV.c (Value.bool false))), []))))
            (T.ite (decide (p.sent ≤ IntKind.i64.wrap (att - tmo))) (T.ret (AV.e (EV.s (SV.c (Value.bool true))), []))
              (T.ret (AV.e (EV.s (SV.c (Value.bool false))), []))))
          (T.ite (decide (p.sent ≤ IntKind.i64.wrap (att - tmo))) (T.ret (AV.e (EV.s (SV.c (Value.bool true))), []))
            (T.ret (AV.e (EV.s (SV.c (Value.bool false))), [])))))
      (T.ite (decide (tmo > 0))
        (T.ite (decide (att < 0))
          (T.ite (decide (IntKind.i64.wrap (att - tmo) ≥ 0)) (T.ret (AV.e (EV.s (SV.c (Value.bool false))), []))
            (T.ite (decide (p.sent ≤ IntKind.i64.wrap (att - tmo))) (T.ret (AV.e (EV.s (SV.c (Value.bool true))), []))
              (T.ret (AV.e (EV.s (SV.c (Value.bool false))), []))))
          (T.ite (decide (p.sent ≤ IntKind.i64.wrap (att - tmo))) (T.ret (AV.e (EV.s (SV.c (Value.bool true))), []))
            (T.ret (AV.e (EV.s (SV.c (Value.bool false))), []))))
        (T.ite (decide (p.sent ≤ IntKind.i64.wrap (att - tmo))) (T.ret (AV.e (EV.s (SV.c (Value.bool true))), []))
          (T.ret (AV.e (EV.s (SV.c (Value.bool false))), [])))) := by kernel_rfl


def e18 : List (Nat × Ent) := [(18, .body oN 0), (43, .summ s43)]
def e19 : List (Nat × Ent) := [(19, .body oN 0)]

noncomputable def t12 (L : LSt) (mi size at' : Int) : T (AV × Heap) := callT Try.prog (entL e12) 1 12 [.e (.s (.ptr 0 0)), .d (.int .i64 mi), .d (.int .i64 size), .d (.int .i64 at')] [.cells 86 (lc L 1), .pm L.es] fun r H' => .ret (r, H')

theorem t12_eq (L : LSt) (mi size at' : Int) : t12 L mi size at' =
    T.ite (decide (mi < 0))
      (T.ret
        (AV.tup [EV.s (SV.c (Value.int IntKind.u64 0)), EV.s (SV.c (Value.int IntKind.i64 1))],
          [AB.cells 86
              [SV.d (Value.int IntKind.i64 L.room), SV.d (Value.int IntKind.u64 L.first),
                SV.d (Value.int IntKind.u64 L.next), SV.d (Value.int IntKind.i64 L.last), SV.mp 1],
            AB.pm L.es]))
      (T.ite (decide (size < 1))
        (T.ret
          (AV.tup [EV.s (SV.c (Value.int IntKind.u64 0)), EV.s (SV.c (Value.int IntKind.i64 9))],
            [AB.cells 86
                [SV.d (Value.int IntKind.i64 L.room), SV.d (Value.int IntKind.u64 L.first),
                  SV.d (Value.int IntKind.u64 L.next), SV.d (Value.int IntKind.i64 L.last), SV.mp 1],
              AB.pm L.es]))
        (T.ite (decide (size > 9000))
          (T.ret
            (AV.tup [EV.s (SV.c (Value.int IntKind.u64 0)), EV.s (SV.c (Value.int IntKind.i64 9))],
              [AB.cells 86
                  [SV.d (Value.int IntKind.i64 L.room), SV.d (Value.int IntKind.u64 L.first),
                    SV.d (Value.int IntKind.u64 L.next), SV.d (Value.int IntKind.i64 L.last), SV.mp 1],
                AB.pm L.es]))
          (T.ite (decide (at' < L.last))
            (T.ret
              (AV.tup [EV.s (SV.c (Value.int IntKind.u64 0)), EV.s (SV.c (Value.int IntKind.i64 10))],
                [AB.cells 86
                    [SV.d (Value.int IntKind.i64 L.room), SV.d (Value.int IntKind.u64 L.first),
                      SV.d (Value.int IntKind.u64 L.next), SV.d (Value.int IntKind.i64 L.last), SV.mp 1],
                  AB.pm L.es]))
            (T.ite (decide (at' > 1099511627776))
              (T.ret
                (AV.tup [EV.s (SV.c (Value.int IntKind.u64 0)), EV.s (SV.c (Value.int IntKind.i64 10))],
                  [AB.cells 86
                      [SV.d (Value.int IntKind.i64 L.room), SV.d (Value.int IntKind.u64 L.first),
                        SV.d (Value.int IntKind.u64 L.next), SV.d (Value.int IntKind.i64 L.last), SV.mp 1],
                    AB.pm L.es]))
              (T.ite ((↑L.es.length : Int) == L.room)
                (T.ret
                  (AV.tup [EV.s (SV.c (Value.int IntKind.u64 0)), EV.s (SV.c (Value.int IntKind.i64 2))],
                    [AB.cells 86
                        [SV.d (Value.int IntKind.i64 L.room), SV.d (Value.int IntKind.u64 L.first),
                          SV.d (Value.int IntKind.u64 L.next), SV.d (Value.int IntKind.i64 L.last), SV.mp 1],
                      AB.pm L.es]))
                (T.ite (L.next == 18446744073709551615)
                  (T.ret
                    (AV.tup [EV.s (SV.c (Value.int IntKind.u64 0)), EV.s (SV.c (Value.int IntKind.i64 15))],
                      [AB.cells 86
                          [SV.d (Value.int IntKind.i64 L.room), SV.d (Value.int IntKind.u64 L.first),
                            SV.d (Value.int IntKind.u64 L.next), SV.d (Value.int IntKind.i64 L.last), SV.mp 1],
                        AB.pm L.es]))
                  (T.need (L.next = L.next ∧ hasP L.es L.next = false)
                    (T.ret
                      (AV.tup [EV.s (SV.d (Value.int IntKind.u64 L.next)), EV.s (SV.c (Value.int IntKind.i64 0))],
                        [AB.cells 86
                            [SV.d (Value.int IntKind.i64 L.room), SV.d (Value.int IntKind.u64 L.first),
                              SV.d (Value.int IntKind.u64 (IntKind.u64.wrap (L.next + 1))),
                              SV.d (Value.int IntKind.i64 at'), SV.mp 1],
                          AB.pm (L.es ++ [{ seq := L.next, mi := mi, size := size, sent := at' }])]))))))))) := by kernel_rfl


noncomputable def t13 (L : LSt) (n : Nat) (g : Nat → List Value) (mi size at' : Int) : T (AV × Heap) := callT Try.prog (entL e13) 2 13 [.e (.s (.ptr 0 0)), .d (.int .i64 mi), .d (.int .i64 size), .d (.int .i64 at')] [.cells 44 (rc L 1 n), .row 36 4 n g] fun r H' => .ret (r, H')

theorem t13_eq (L : LSt) (n : Nat) (g : Nat → List Value) (mi size at' : Int) : t13 L n g mi size at' =
    T.ite (decide (mi < 0))
      (T.ret
        (AV.tup [EV.s (SV.c (Value.int IntKind.u64 0)), EV.s (SV.c (Value.int IntKind.i64 1))],
          [AB.cells 44
              [SV.d (Value.int IntKind.i64 L.room), SV.d (Value.int IntKind.u64 L.first),
                SV.d (Value.int IntKind.u64 L.next), SV.d (Value.int IntKind.i64 L.last), SV.sl 1 4 0 n 0],
            AB.row 36 4 n g]))
      (T.ite (decide (size ≥ 1))
        (T.ite (decide (size ≤ 9000))
          (T.ite (decide (at' ≥ 0))
            (T.ite (decide (at' ≤ 1099511627776))
              (T.ite (decide (at' < L.last))
                (T.ret
                  (AV.tup [EV.s (SV.c (Value.int IntKind.u64 0)), EV.s (SV.c (Value.int IntKind.i64 10))],
                    [AB.cells 44
                        [SV.d (Value.int IntKind.i64 L.room), SV.d (Value.int IntKind.u64 L.first),
                          SV.d (Value.int IntKind.u64 L.next), SV.d (Value.int IntKind.i64 L.last), SV.sl 1 4 0 n 0],
                      AB.row 36 4 n g]))
                (T.ite (decide ((↑n : Int) ≥ L.room))
                  (T.ret
                    (AV.tup [EV.s (SV.c (Value.int IntKind.u64 0)), EV.s (SV.c (Value.int IntKind.i64 2))],
                      [AB.cells 44
                          [SV.d (Value.int IntKind.i64 L.room), SV.d (Value.int IntKind.u64 L.first),
                            SV.d (Value.int IntKind.u64 L.next), SV.d (Value.int IntKind.i64 L.last), SV.sl 1 4 0 n 0],
                        AB.row 36 4 n g]))
                  (T.ite (L.next == 18446744073709551615)
                    (T.ret
                      (AV.tup [EV.s (SV.c (Value.int IntKind.u64 0)), EV.s (SV.c (Value.int IntKind.i64 15))],
                        [AB.cells 44
                            [SV.d (Value.int IntKind.i64 L.room), SV.d (Value.int IntKind.u64 L.first),
                              SV.d (Value.int IntKind.u64 L.next), SV.d (Value.int IntKind.i64 L.last), SV.sl 1 4 0 n 0],
                          AB.row 36 4 n g]))
                    (T.need
                      (some
                          (AB.cells 44
                            [SV.d (Value.int IntKind.i64 L.room), SV.d (Value.int IntKind.u64 L.first),
                              SV.d (Value.int IntKind.u64 L.next), SV.d (Value.int IntKind.i64 L.last), SV.sl 1 4 0 n 0]) =
                        some
                          (AB.cells 44
                            [SV.d (Value.int IntKind.i64 L.room), SV.d (Value.int IntKind.u64 L.first),
                              SV.d (Value.int IntKind.u64 L.next), SV.d (Value.int IntKind.i64 L.last), SV.sl 1 4 0 n 0]))
                      (T.need
                        (0 + n ≤ n ∧
                          0 + 1 ≤
                              (chunksOf (3 + 1) 1
                                  [Value.int IntKind.u64 L.next, Value.int IntKind.i64 mi, Value.int IntKind.i64 size,
                                    Value.int IntKind.i64 at']).length ∧
                            n + 1 ≤ most)
                        (T.ret
                          (AV.tup
                              [EV.s (SV.d (Value.int IntKind.u64 (IntKind.u64.wrap (IntKind.u64.wrap (L.next + 1) - 1)))),
                                EV.s (SV.c (Value.int IntKind.i64 0))],
                            [AB.cells 44
                                [SV.d (Value.int IntKind.i64 L.room), SV.d (Value.int IntKind.u64 L.first),
                                  SV.d (Value.int IntKind.u64 (IntKind.u64.wrap (L.next + 1))),
                                  SV.d (Value.int IntKind.i64 at'), SV.sl 3 4 0 (n + 1) 0],
                              AB.dead,
                              AB.lit 36 4
                                [[Value.int IntKind.u64 L.next, Value.int IntKind.i64 mi, Value.int IntKind.i64 size,
                                    Value.int IntKind.i64 at']],
                              AB.row 36 4 (n + 1)
                                (appendG g 0 n
                                  (fun j =>
                                    (chunksOf (3 + 1) 1
                                          [Value.int IntKind.u64 L.next, Value.int IntKind.i64 mi,
                                            Value.int IntKind.i64 size, Value.int IntKind.i64 at']).getD
                                      j [])
                                  0)])))))))
              (T.ret
                (AV.tup [EV.s (SV.c (Value.int IntKind.u64 0)), EV.s (SV.c (Value.int IntKind.i64 10))],
                  [AB.cells 44
                      [SV.d (Value.int IntKind.i64 L.room), SV.d (Value.int IntKind.u64 L.first),
                        SV.d (Value.int IntKind.u64 L.next), SV.d (Value.int IntKind.i64 L.last), SV.sl 1 4 0 n 0],
                    AB.row 36 4 n g])))
            (T.ret
              (AV.tup [EV.s (SV.c (Value.int IntKind.u64 0)), EV.s (SV.c (Value.int IntKind.i64 10))],
                [AB.cells 44
                    [SV.d (Value.int IntKind.i64 L.room), SV.d (Value.int IntKind.u64 L.first),
                      SV.d (Value.int IntKind.u64 L.next), SV.d (Value.int IntKind.i64 L.last), SV.sl 1 4 0 n 0],
                  AB.row 36 4 n g])))
          (T.ret
            (AV.tup [EV.s (SV.c (Value.int IntKind.u64 0)), EV.s (SV.c (Value.int IntKind.i64 9))],
              [AB.cells 44
                  [SV.d (Value.int IntKind.i64 L.room), SV.d (Value.int IntKind.u64 L.first),
                    SV.d (Value.int IntKind.u64 L.next), SV.d (Value.int IntKind.i64 L.last), SV.sl 1 4 0 n 0],
                AB.row 36 4 n g])))
        (T.ret
          (AV.tup [EV.s (SV.c (Value.int IntKind.u64 0)), EV.s (SV.c (Value.int IntKind.i64 9))],
            [AB.cells 44
                [SV.d (Value.int IntKind.i64 L.room), SV.d (Value.int IntKind.u64 L.first),
                  SV.d (Value.int IntKind.u64 L.next), SV.d (Value.int IntKind.i64 L.last), SV.sl 1 4 0 n 0],
              AB.row 36 4 n g]))) := by kernel_rfl


noncomputable def t14 (L : LSt) (seq : Int) : T (AV × Heap) := callT Try.prog (entL e14) 1 14 [.e (.s (.ptr 0 0)), .d (.int .u64 seq)] [.cells 86 (lc L 1), .pm L.es] fun r H' => .ret (r, H')

theorem t14_eq (L : LSt) (seq : Int) : t14 L seq =
    T.ite (decide (seq < L.first))
      (T.ret
        (AV.tup
            [EV.agg
                [SV.c (Value.int IntKind.u64 0), SV.c (Value.int IntKind.i64 0), SV.c (Value.int IntKind.i64 0),
                  SV.c (Value.int IntKind.i64 0)],
              EV.s (SV.c (Value.int IntKind.i64 3))],
          [AB.cells 86
              [SV.d (Value.int IntKind.i64 L.room), SV.d (Value.int IntKind.u64 L.first),
                SV.d (Value.int IntKind.u64 L.next), SV.d (Value.int IntKind.i64 L.last), SV.mp 1],
            AB.pm L.es]))
      (T.ite (decide (seq ≥ L.next))
        (T.ret
          (AV.tup
              [EV.agg
                  [SV.c (Value.int IntKind.u64 0), SV.c (Value.int IntKind.i64 0), SV.c (Value.int IntKind.i64 0),
                    SV.c (Value.int IntKind.i64 0)],
                EV.s (SV.c (Value.int IntKind.i64 3))],
            [AB.cells 86
                [SV.d (Value.int IntKind.i64 L.room), SV.d (Value.int IntKind.u64 L.first),
                  SV.d (Value.int IntKind.u64 L.next), SV.d (Value.int IntKind.i64 L.last), SV.mp 1],
              AB.pm L.es]))
        (T.ite (hasP L.es seq)
          (T.ret
            (AV.tup
                [EV.agg
                    [SV.d (Value.int IntKind.u64 (findP L.es seq).seq), SV.d (Value.int IntKind.i64 (findP L.es seq).mi),
                      SV.d (Value.int IntKind.i64 (findP L.es seq).size),
                      SV.d (Value.int IntKind.i64 (findP L.es seq).sent)],
                  EV.s (SV.c (Value.int IntKind.i64 0))],
              [AB.cells 86
                  [SV.d (Value.int IntKind.i64 L.room), SV.d (Value.int IntKind.u64 L.first),
                    SV.d (Value.int IntKind.u64 L.next), SV.d (Value.int IntKind.i64 L.last), SV.mp 1],
                AB.pm (delP L.es seq)]))
          (T.ret
            (AV.tup
                [EV.agg
                    [SV.c (Value.int IntKind.u64 0), SV.c (Value.int IntKind.i64 0), SV.c (Value.int IntKind.i64 0),
                      SV.c (Value.int IntKind.i64 0)],
                  EV.s (SV.c (Value.int IntKind.i64 4))],
              [AB.cells 86
                  [SV.d (Value.int IntKind.i64 L.room), SV.d (Value.int IntKind.u64 L.first),
                    SV.d (Value.int IntKind.u64 L.next), SV.d (Value.int IntKind.i64 L.last), SV.mp 1],
                AB.pm L.es])))) := by kernel_rfl


noncomputable def t14n (seq : Int) : T (AV × Heap) := callT Try.prog (entL e14) 1 14 [.c (.pointer none), .d (.int .u64 seq)] [] fun r H' => .ret (r, H')

theorem t14n_eq (seq : Int) : t14n seq =
    T.ret
      (AV.tup
          [EV.agg
              [SV.c (Value.int IntKind.u64 0), SV.c (Value.int IntKind.i64 0), SV.c (Value.int IntKind.i64 0),
                SV.c (Value.int IntKind.i64 0)],
            EV.s (SV.c (Value.int IntKind.i64 5))],
        []) := by kernel_rfl


noncomputable def t15 (L : LSt) (n : Nat) (f : Nat → Pkt) (seq : Int) : T (AV × Heap) := callT Try.prog (entL e15) 2 15 [.e (.s (.ptr 0 0)), .d (.int .u64 seq)] [.cells 44 (rc L 1 n), .row 36 4 n (pkF f)] fun r H' => .ret (r, H')

theorem t15_eq (L : LSt) (n : Nat) (f : Nat → Pkt) (seq : Int) : t15 L n f seq =
    T.ite (decide (seq < L.first))
      (T.ret
        (AV.tup
            [EV.agg
                [SV.c (Value.int IntKind.u64 0), SV.c (Value.int IntKind.i64 0), SV.c (Value.int IntKind.i64 0),
                  SV.c (Value.int IntKind.i64 0)],
              EV.s (SV.c (Value.int IntKind.i64 3))],
          [AB.cells 44
              [SV.d (Value.int IntKind.i64 L.room), SV.d (Value.int IntKind.u64 L.first),
                SV.d (Value.int IntKind.u64 L.next), SV.d (Value.int IntKind.i64 L.last), SV.sl 1 4 0 n 0],
            AB.row 36 4 n (pkF f)]))
      (T.ite (decide (seq ≥ L.next))
        (T.ret
          (AV.tup
              [EV.agg
                  [SV.c (Value.int IntKind.u64 0), SV.c (Value.int IntKind.i64 0), SV.c (Value.int IntKind.i64 0),
                    SV.c (Value.int IntKind.i64 0)],
                EV.s (SV.c (Value.int IntKind.i64 3))],
            [AB.cells 44
                [SV.d (Value.int IntKind.i64 L.room), SV.d (Value.int IntKind.u64 L.first),
                  SV.d (Value.int IntKind.u64 L.next), SV.d (Value.int IntKind.i64 L.last), SV.sl 1 4 0 n 0],
              AB.row 36 4 n (pkF f)]))
        (T.code 2 (loopAt Try.prog 15 0).loop
          {
            fr :=
              [AV.e (EV.s (SV.ptr 0 0)), AV.e (EV.s (SV.d (Value.int IntKind.u64 seq))), AV.tup [], AV.tup [],
                AV.e (EV.s (SV.ptr 2 0)), AV.e (EV.s (SV.c (Value.int IntKind.i64 0))),
                AV.e (EV.s (SV.c (Value.slice none 0 0))), AV.e (EV.s (SV.ptr 3 0)), AV.e (EV.s (SV.c (Value.bool false))),
                AV.e (EV.s (SV.c (Value.int IntKind.i64 0))), AV.e (EV.s (SV.d (Value.int IntKind.u64 seq))),
                AV.e (EV.s (SV.ptr 0 0)), AV.e (EV.s (SV.ptr 0 0)), AV.e (EV.s (SV.ptr 0 1)),
                AV.e (EV.s (SV.d (Value.int IntKind.u64 L.first))), AV.e (EV.s (SV.c (Value.bool false))),
                AV.e (EV.s (SV.c (Value.bool false))), AV.e (EV.s (SV.d (Value.int IntKind.u64 seq))),
                AV.e (EV.s (SV.ptr 0 0)), AV.e (EV.s (SV.ptr 0 0)), AV.e (EV.s (SV.ptr 0 2)),
                AV.e (EV.s (SV.d (Value.int IntKind.u64 L.next))), AV.e (EV.s (SV.c (Value.bool false))),
                AV.e (EV.s (SV.c (Value.bool false))), AV.tup [], AV.tup [], AV.tup [], AV.tup [], AV.tup [], AV.tup [],
                AV.tup [], AV.tup [], AV.tup [], AV.tup [], AV.tup [], AV.tup [], AV.tup [], AV.tup [], AV.tup [],
                AV.tup [], AV.tup [], AV.tup [], AV.tup [], AV.tup [], AV.tup [], AV.tup [], AV.tup [], AV.tup [],
                AV.tup [], AV.tup [], AV.tup [], AV.tup [], AV.tup [], AV.tup [], AV.tup [], AV.tup [], AV.tup [],
                AV.tup [], AV.tup [], AV.tup [], AV.tup [], AV.tup [], AV.tup [], AV.tup [], AV.tup [], AV.tup [],
                AV.tup [], AV.tup [], AV.tup []],
            H :=
              [AB.cells 44
                  [SV.d (Value.int IntKind.i64 L.room), SV.d (Value.int IntKind.u64 L.first),
                    SV.d (Value.int IntKind.u64 L.next), SV.d (Value.int IntKind.i64 L.last), SV.sl 1 4 0 n 0],
                AB.row 36 4 n (pkF f),
                AB.cells 36
                  [SV.c (Value.int IntKind.u64 0), SV.c (Value.int IntKind.i64 0), SV.c (Value.int IntKind.i64 0),
                    SV.c (Value.int IntKind.i64 0)],
                AB.cells 36
                  [SV.c (Value.int IntKind.u64 0), SV.c (Value.int IntKind.i64 0), SV.c (Value.int IntKind.i64 0),
                    SV.c (Value.int IntKind.i64 0)]] }
          (T.go [false, false] (t15 L n f seq)).kont)) := by kernel_rfl


noncomputable def t17 (L : LSt) (att tmo : Int) : T (AV × Heap) := callT Try.prog (entL e17) 2 17 [.e (.s (.ptr 0 0)), .d (.int .i64 att), .d (.int .i64 tmo)] [.cells 86 (lc L 1), .pm L.es] fun r H' => .ret (r, H')

theorem t17_eq (L : LSt) (att tmo : Int) : t17 L att tmo =
    T.call 41 [AV.e (EV.s (SV.ptr 0 0)), AV.e (EV.s (SV.fn 42 [(2, 0), (3, 0)]))]
      [AB.cells 86
          [SV.d (Value.int IntKind.i64 L.room), SV.d (Value.int IntKind.u64 L.first), SV.d (Value.int IntKind.u64 L.next),
            SV.d (Value.int IntKind.i64 L.last), SV.mp 1],
        AB.pm L.es, AB.cells 3 [SV.d (Value.int IntKind.i64 att)], AB.cells 3 [SV.d (Value.int IntKind.i64 tmo)]]
      (T.go [] (t17 L att tmo)).kontC := by kernel_rfl


noncomputable def t19 (L : LSt) : T (AV × Heap) := callT Try.prog (entL e19) 2 19 [.e (.s (.ptr 0 0))] [.cells 86 (lc L 1), .pm L.es] fun r H' => .ret (r, H')

theorem t19_eq (L : LSt) : t19 L =
    T.call 41 [AV.e (EV.s (SV.ptr 0 0)), AV.e (EV.s (SV.fn 44 []))]
      [AB.cells 86
          [SV.d (Value.int IntKind.i64 L.room), SV.d (Value.int IntKind.u64 L.first), SV.d (Value.int IntKind.u64 L.next),
            SV.d (Value.int IntKind.i64 L.last), SV.mp 1],
        AB.pm L.es]
      (T.go [] (t19 L)).kontC := by kernel_rfl


end Go.Proofs.Ythckkoledhjmeaa.Ev

/-
  Contracts told for pure data hold for what is known, too; summaries; whether a packet's time is over.
-/
namespace Go.Proofs.Ythckkoledhjmeaa.Ev
open Go

theorem step_toD {E : Env} {H : Heap} {w : World} {n0 : Nat} (h : HRep E H w) (hn : n0 ≤ H.length) : Step n0 E H w E (H.map AB.toD) w := by
  refine ⟨.refl _ _, by simpa using hn, hrep_toD h, rfl, rfl, rfl, Nat.le_refl _, fun _ _ _ => rfl, fun b _ => ?_⟩
  rintro ⟨l, C, hl, ho, rfl⟩
  rw [List.getElem?_map] at hl
  obtain ⟨B, hB, rfl⟩ := Option.map_eq_some_iff.1 hl
  exact ⟨l, B, hB, by cases B <;> exact ho, rfl⟩

theorem CallsA.toD {P : Program} {f : Nat} {args : List AV} {H : Heap} {Q : AV → Heap → Prop} (h : CallsA P f (args.map AV.toD) (H.map AB.toD) Q) : CallsA P f args H Q := by
  intro E w hr ha
  have hst := step_toD hr (Nat.le_refl _)
  have e1 : (args.map AV.toD).map (AV.conc E) = args.map (AV.conc E) := by
    rw [List.map_map]
    exact List.map_congr_left fun x _ => (AV.toD_conc x).1
  have := h E w hst.rep (fun x hx => by
    obtain ⟨y, hy, rfl⟩ := List.mem_map.1 hx
    rw [List.length_map, (AV.toD_conc (E := E) y).2.1]
    exact ⟨(ha y hy).1, (AV.toD_conc y).2.2 (ha y hy).2⟩)
  rw [e1] at this
  refine this.mono ?_
  rintro e w' ⟨r, H', E', h1, h2, h3, h4, h5⟩
  rw [List.length_map] at h2
  exact ⟨r, H', E', h1, hst.trans h2 (Nat.le_refl _), h3, h4, h5⟩

/-- What is known becomes pure data, where it is asked. -/
def toDs : List Bool → List AV → List AV
  | b :: bs, x :: xs => (match b with | true => x.toD | false => x) :: toDs bs xs
  | _, xs => xs

def toDHs : List Bool → Heap → Heap
  | b :: bs, x :: xs => (match b with | true => x.toD | false => x) :: toDHs bs xs
  | _, xs => xs

theorem toDs_conc {E : Env} : ∀ (bs : List Bool) (xs : List AV), (toDs bs xs).map (AV.conc E) = xs.map (AV.conc E)
  | [], xs => by cases xs <;> rfl
  | _ :: _, [] => rfl
  | b :: bs, x :: xs => by
    simp only [toDs, List.map_cons, toDs_conc bs xs]
    cases b
    · rfl
    · simp only [(AV.toD_conc (E := E) x).1]

theorem toDs_ref {E : Env} {n : Nat} : ∀ (bs : List Bool) (xs : List AV), (∀ x ∈ xs, x.ref ≤ n ∧ x.ok E) → ∀ x ∈ toDs bs xs, x.ref ≤ n ∧ x.ok E
  | [], xs, h => by cases xs <;> exact h
  | _ :: _, [], h => h
  | b :: bs, x :: xs, h => by
    simp only [List.mem_cons, forall_eq_or_imp] at h
    simp only [toDs, List.mem_cons, forall_eq_or_imp]
    refine ⟨?_, toDs_ref bs xs h.2⟩
    cases b
    · exact h.1
    · exact ⟨by rw [(AV.toD_conc (E := E) x).2.1]; exact h.1.1, (AV.toD_conc x).2.2 h.1.2⟩

theorem toDHs_len : ∀ (bs : List Bool) (H : Heap), (toDHs bs H).length = H.length
  | [], H => by cases H <;> rfl
  | _ :: _, [] => rfl
  | b :: bs, x :: xs => by simp only [toDHs, List.length_cons, toDHs_len bs xs]

theorem toDHs_get : ∀ (bs : List Bool) (H : Heap) {l : Nat} {C : AB}, (toDHs bs H)[l]? = some C → H[l]? = some C ∨ ∃ B, H[l]? = some B ∧ C = B.toD
  | [], H, l, C, h => by cases H <;> exact .inl h
  | _ :: _, [], l, C, h => by simp [toDHs] at h
  | b :: bs, x :: xs, 0, C, h => by
    simp only [toDHs, List.getElem?_cons_zero, Option.some.injEq] at h
    cases b
    · exact .inl (by simp [h])
    · exact .inr ⟨x, by simp, h.symm⟩
  | b :: bs, x :: xs, l + 1, C, h => by
    simp only [toDHs, List.getElem?_cons_succ] at h
    simpa using toDHs_get bs xs h

theorem step_toDs {E : Env} {H : Heap} {w : World} {n0 : Nat} (bs : List Bool) (h : HRep E H w) (hn : n0 ≤ H.length) : Step n0 E H w E (toDHs bs H) w := by
  have get : ∀ {l : Nat} {C : AB}, (toDHs bs H)[l]? = some C → ∃ B, H[l]? = some B ∧ (C = B ∨ C = B.toD) := by
    intro l C hl
    rcases toDHs_get bs H hl with h | ⟨B, h1, h2⟩
    · exact ⟨C, h, .inl rfl⟩
    · exact ⟨B, h1, .inr h2⟩
  have own : ∀ (B : AB) b, B.toD.own b = B.own b := fun B b => by cases B <;> rfl
  have him : ∀ b, Im E (toDHs bs H) b → Im E H b := by
    rintro b ⟨l, C, hl, ho, rfl⟩
    obtain ⟨B, hB, rfl | rfl⟩ := get hl
    · exact ⟨l, C, hB, ho, rfl⟩
    · exact ⟨l, B, hB, by rw [← own]; exact ho, rfl⟩
  have hD := hrep_toD h
  have hDg : ∀ {l : Nat} {B : AB}, H[l]? = some B → (H.map AB.toD)[l]? = some B.toD := fun hl => by rw [List.getElem?_map, hl]; rfl
  refine ⟨.refl _ _, by rw [toDHs_len]; exact hn, ⟨fun l C hl => ?_, fun l C hl => ?_, fun l l' C C' hl hl' ho ho' he => ?_, fun l k n g hl hn hi => ?_⟩, rfl, rfl, rfl, Nat.le_refl _, fun _ _ _ => rfl, fun b _ => him b⟩
  · obtain ⟨B, hB, rfl | rfl⟩ := get hl
    · exact h.rep l _ hB
    · exact hD.rep l _ (hDg hB)
  · rw [toDHs_len]
    obtain ⟨B, hB, rfl | rfl⟩ := get hl
    · exact h.ok l _ hB
    · have := hD.ok l _ (hDg hB); rwa [List.length_map] at this
  · have key : ∀ {l : Nat} {C : AB}, (toDHs bs H)[l]? = some C → C.own (E.nil l) = true → ∃ B : AB, H[l]? = some B ∧ B.own (E.nil l) = true := by
      intro l C hl ho
      obtain ⟨B, hB, rfl | rfl⟩ := get hl
      · exact ⟨_, hB, ho⟩
      · exact ⟨_, hB, by rw [← own]; exact ho⟩
    obtain ⟨B, h1, h2⟩ := key hl ho
    obtain ⟨B', h1', h2'⟩ := key hl' ho'
    exact h.inj l l' B B' h1 h1' h2 h2' he
  · obtain ⟨B, hB, he | he⟩ := get hl
    · subst he; exact h.ro l k n g hB hn (him _ hi)
    · have : B = .ro k n g := by cases B <;> simp [AB.toD] at he ⊢; exact ⟨he.1.symm, he.2.1.symm, he.2.2.symm⟩
      subst this
      exact h.ro l k n g hB hn (him _ hi)

theorem Re.toDm {n0 : Nat} {fr : List AV} {H : Heap} {R : List AV → Heap → Prop} (bs hs : List Bool) (h : Re n0 (toDs bs fr) (toDHs hs H) R) : Re n0 fr H R := by
  intro E w h1 h2 h3
  have hst := step_toDs (n0 := n0) hs h1 h3
  obtain ⟨fr3, H3, E3, k1, k2, k3, k4⟩ := h E w hst.rep (fun x hx => by rw [toDHs_len]; exact toDs_ref bs fr h2 x hx) hst.len
  exact ⟨fr3, H3, E3, hst.trans k1 (Nat.le_refl _), by rw [k2, toDs_conc], k3, k4⟩

/-! ### Numbers -/

theorem num_facts {x : SV} {k : IntKind} {n : Int} (h : x.num = some (k, n)) : (∀ ms, x.ren ms = some x) ∧ x.toD = .d (.int k n) ∧ ∀ f, x.by f = x := by
  cases x with
  | c v =>
    cases v <;> simp [SV.num] at h
    obtain ⟨rfl, rfl⟩ := h
    exact ⟨fun _ => rfl, rfl, fun _ => rfl⟩
  | d v =>
    cases v <;> simp [SV.num] at h
    obtain ⟨rfl, rfl⟩ := h
    exact ⟨fun _ => rfl, rfl, fun _ => rfl⟩
  | _ => simp [SV.num] at h

theorem numA_facts {x : AV} {k : IntKind} {n : Int} (h : numA x = some (k, n)) : (∀ ms, x.ren ms = some x) ∧ x.toD = .d (.int k n) := by
  cases x with
  | tup vs => simp [numA] at h
  | e x => cases x with
    | agg cs => simp [numA] at h
    | s x =>
      obtain ⟨h1, h2, h3⟩ := num_facts (x := x) h
      exact ⟨fun ms => by simp only [AV.ren, EV.ren, h1], by simp only [AV.toD, EV.toD, h2]⟩

theorem pk4_facts {cs : List SV} {p : Pkt} (h : pk4 cs = some p) : (∀ ms, renCells ms cs = some cs) ∧ cs.map SV.toD = p.cells := by
  unfold pk4 at h
  split at h
  · rename_i a b c d
    split at h
    · rename_i a' b' c' d' ha hb hc hd
      cases h
      obtain ⟨a1, a2, _⟩ := num_facts ha
      obtain ⟨b1, b2, _⟩ := num_facts hb
      obtain ⟨c1, c2, _⟩ := num_facts hc
      obtain ⟨d1, d2, _⟩ := num_facts hd
      exact ⟨fun ms => by simp only [renCells, a1, b1, c1, d1], by simp only [List.map_cons, List.map_nil, a2, b2, c2, d2, Pkt.cells]⟩
    · cases h
  · cases h

theorem agg_ren {cs : List SV} (ms : List (Option Nat)) (h : renCells ms cs = some cs) : (AV.e (.agg cs)).ren ms = some (.e (.agg cs)) := by
  simp only [AV.ren, EV.ren, h]

theorem agg_toD (cs : List SV) : (AV.e (.agg cs)).toD = .e (.agg (cs.map SV.toD)) := rfl

theorem backH_nil (H : Heap) : backH [] H [] = H := by simp [backH, backSet]

/-- A function of pure data that turns no memory. -/
theorem CallsA.pure {P : Program} {f : Nat} {args args0 : List AV} {H : Heap} (hr : renFr [] args = some args) (ha : args.map AV.toD = args0) {r : AV} (hb : ∀ f, r.by f = r) {Q : AV → Heap → Prop} (h : CallsA P f args0 [] fun r' H' => r' = r ∧ H' = []) (hq : Q r H) : CallsA P f args H Q := by
  subst ha
  refine CallsA.lift (args0 := args) (H0 := []) [] hr rfl rfl (CallsA.toD h) ?_ ?_
  · rintro r' H' ⟨rfl, rfl⟩; rfl
  · rintro r' H' ⟨rfl, rfl⟩
    rw [hb, backH_nil]
    exact hq

theorem wrap64 {x : Int} (h : I64 x) : IntKind.i64.wrap x = x := by rw [IntKind.wrap_i64]; unfold I64 at h; omega

theorem e43ok : EntsOk Try.prog e43 := ⟨k43, trivial⟩

theorem over43 (att tmo : Int) (p : Pkt) (h1 : I64 att) (h2 : I64 tmo) (h3 : 0 ≤ p.sent) (h4 : p.sent ≤ 1099511627776) :
    CallsA Try.prog 43 [.e (.agg p.cells), .d (.int .i64 att), .d (.int .i64 tmo)] [] fun r H' => r = .d (.bool (overX att tmo p)) ∧ H' = [] := by
  refine CallsA.re (calls_of fine e43ok 1 43 _ _ ?_)
  show (t43 att tmo p).sat _ _
  rw [t43_eq]
  unfold I64 at h1 h2
  have key : ∀ b : Bool, overX att tmo p = b → Re 0 [AV.e (EV.s (SV.c (Value.bool b)))] [] fun fr H2 => ∃ r2, fr = [r2] ∧ r2 = .d (.bool (overX att tmo p)) ∧ H2 = [] := by
    intro b hb
    rw [hb]
    exact .toD (.refl ⟨_, rfl, rfl, rfl⟩)
  simp only [T.sat, IntKind.wrap_i64, decide_eq_true_eq, decide_eq_false_iff_not]
  refine ⟨fun _ => ⟨fun _ => ⟨fun _ => key _ ?_, fun _ => ⟨fun _ => ⟨fun _ => ⟨fun _ => key _ ?_, fun _ => ⟨fun _ => key _ ?_, fun _ => key _ ?_⟩⟩, fun _ => ⟨fun _ => key _ ?_, fun _ => key _ ?_⟩⟩, fun _ => ⟨fun _ => key _ ?_, fun _ => key _ ?_⟩⟩⟩,
      fun _ => ⟨fun _ => ⟨fun _ => ⟨fun _ => key _ ?_, fun _ => ⟨fun _ => key _ ?_, fun _ => key _ ?_⟩⟩, fun _ => ⟨fun _ => key _ ?_, fun _ => key _ ?_⟩⟩, fun _ => ⟨fun _ => key _ ?_, fun _ => key _ ?_⟩⟩⟩,
    fun _ => ⟨fun _ => ⟨fun _ => ⟨fun _ => key _ ?_, fun _ => ⟨fun _ => key _ ?_, fun _ => key _ ?_⟩⟩, fun _ => ⟨fun _ => key _ ?_, fun _ => key _ ?_⟩⟩, fun _ => ⟨fun _ => key _ ?_, fun _ => key _ ?_⟩⟩⟩ <;>
    simp only [overX, decide_eq_true_eq, decide_eq_false_iff_not] <;> omega

theorem s43ok : (Ent.summ s43).ok Try.prog 43 := by
  intro args H Q hq
  unfold s43 at hq
  split at hq
  · rename_i cs a b
    split at hq
    · rename_i p att tmo hp ha hb
      obtain ⟨⟨h1, h2, h3, h4⟩, hq⟩ := hq
      obtain ⟨p1, p2⟩ := pk4_facts hp
      obtain ⟨a1, a2⟩ := numA_facts ha
      obtain ⟨b1, b2⟩ := numA_facts hb
      refine CallsA.pure (args0 := [.e (.agg p.cells), .d (.int .i64 att), .d (.int .i64 tmo)]) ?_ ?_ (fun _ => rfl) (over43 att tmo p h1 h2 h3 h4) hq
      · simp only [renFr, a1, b1, agg_ren _ (p1 _)]
      · simp only [List.map_cons, List.map_nil, a2, b2, agg_toD, p2]
    · exact hq.elim
  · exact hq.elim

end Go.Proofs.Ythckkoledhjmeaa.Ev

/-
  The abstract evaluator's trees: loops of a ledger's functions.
-/
namespace Go.Proofs.Ythckkoledhjmeaa.Ev
open Go

def H15 (L : LSt) (n : Nat) (f : Nat → Pkt) (p : Pkt) (k : Nat) (g : Nat → List Value) : Heap := [.cells 44 (rc L 1 n), .row 36 4 n (pkF f), .cells 36 Pkt.zero.cells, .cells 36 p.cells, .row 36 4 k g]
def x15 (seq : Int) (k : Nat) (b : Bool) (i : Int) : List AV := [.e (.s (.ptr 0 0)), .d (.int .u64 seq), .e (.s (.ptr 2 0)), .d (.int .i64 0), .e (.s (.sl 4 4 0 k 0)), .e (.s (.ptr 3 0)), .c (.bool b), .d (.int .i64 i)]

noncomputable def t15b (L : LSt) (n : Nat) (f : Nat → Pkt) (seq : Int) (p : Pkt) (k : Nat) (g : Nat → List Value) (b : Bool) (i : Int) (vs : Nat → Value) : T (Exit × List AV × Heap) := bodyT Try.prog e15 1 oN 2 (loopAt Try.prog 15 0) [0, 1, 4, 5, 6, 7, 8, 9] 69 (x15 seq k b i) (H15 L n f p k g) vs

theorem t15b_eq (L : LSt) (n : Nat) (f : Nat → Pkt) (seq : Int) (p : Pkt) (k : Nat) (g : Nat → List Value) (b : Bool) (i : Int) (vs : Nat → Value) : t15b L n f seq p k g b i vs =
    T.ite (decide (i < (↑n : Int)))
      (T.need (0 ≤ i ∧ i < (↑n : Int))
        (T.need (0 + i.toNat < n)
          (T.ite ((f (0 + i.toNat)).seq == seq)
            (T.need (0 ≤ i ∧ i < (↑n : Int))
              (T.need (0 + i.toNat < n)
                (T.ret
                  (Exit.normal,
                    [AV.e (EV.s (SV.ptr 0 0)), AV.e (EV.s (SV.d (Value.int IntKind.u64 seq))), AV.e (EV.s (SV.ptr 2 0)),
                      AV.e (EV.s (SV.d (Value.int IntKind.i64 0))), AV.e (EV.s (SV.sl 4 4 0 k 0)), AV.e (EV.s (SV.ptr 3 0)),
                      AV.e (EV.s (SV.c (Value.bool true))),
                      AV.e (EV.s (SV.d (Value.int IntKind.i64 (IntKind.i64.wrap (i + 1)))))],
                    [AB.cells 44
                        [SV.d (Value.int IntKind.i64 L.room), SV.d (Value.int IntKind.u64 L.first),
                          SV.d (Value.int IntKind.u64 L.next), SV.d (Value.int IntKind.i64 L.last), SV.sl 1 4 0 n 0],
                      AB.row 36 4 n (pkF f),
                      AB.cells 36
                        [SV.d (Value.int IntKind.u64 0), SV.d (Value.int IntKind.i64 0), SV.d (Value.int IntKind.i64 0),
                          SV.d (Value.int IntKind.i64 0)],
                      AB.cells 36
                        [SV.d (Value.int IntKind.u64 (f (0 + i.toNat)).seq),
                          SV.d (Value.int IntKind.i64 (f (0 + i.toNat)).mi),
                          SV.d (Value.int IntKind.i64 (f (0 + i.toNat)).size),
                          SV.d (Value.int IntKind.i64 (f (0 + i.toNat)).sent)],
                      AB.row 36 4 k g]))))
            (T.need (0 ≤ i ∧ i < (↑n : Int))
              (T.need (0 + i.toNat < n)
                (T.need
                  (0 + k ≤ k ∧
                    0 + 1 ≤
                        (chunksOf (3 + 1) 1
                            [Value.int IntKind.u64 (f (0 + i.toNat)).seq, Value.int IntKind.i64 (f (0 + i.toNat)).mi,
                              Value.int IntKind.i64 (f (0 + i.toNat)).size,
                              Value.int IntKind.i64 (f (0 + i.toNat)).sent]).length ∧
                      k + 1 ≤ most)
                  (T.ret
                    (Exit.normal,
                      [AV.e (EV.s (SV.ptr 0 0)), AV.e (EV.s (SV.d (Value.int IntKind.u64 seq))), AV.e (EV.s (SV.ptr 2 0)),
                        AV.e (EV.s (SV.d (Value.int IntKind.i64 0))), AV.e (EV.s (SV.sl 6 4 0 (k + 1) 0)),
                        AV.e (EV.s (SV.ptr 3 0)), AV.e (EV.s (SV.c (Value.bool b))),
                        AV.e (EV.s (SV.d (Value.int IntKind.i64 (IntKind.i64.wrap (i + 1)))))],
                      [AB.cells 44
                          [SV.d (Value.int IntKind.i64 L.room), SV.d (Value.int IntKind.u64 L.first),
                            SV.d (Value.int IntKind.u64 L.next), SV.d (Value.int IntKind.i64 L.last), SV.sl 1 4 0 n 0],
                        AB.row 36 4 n (pkF f),
                        AB.cells 36
                          [SV.d (Value.int IntKind.u64 0), SV.d (Value.int IntKind.i64 0), SV.d (Value.int IntKind.i64 0),
                            SV.d (Value.int IntKind.i64 0)],
                        AB.cells 36
                          [SV.d (Value.int IntKind.u64 p.seq), SV.d (Value.int IntKind.i64 p.mi),
                            SV.d (Value.int IntKind.i64 p.size), SV.d (Value.int IntKind.i64 p.sent)],
                        AB.dead,
                        AB.lit 36 4
                          [[Value.int IntKind.u64 (f (0 + i.toNat)).seq, Value.int IntKind.i64 (f (0 + i.toNat)).mi,
                              Value.int IntKind.i64 (f (0 + i.toNat)).size, Value.int IntKind.i64 (f (0 + i.toNat)).sent]],
                        AB.row 36 4 (k + 1)
                          (appendG g 0 k
                            (fun j =>
                              (chunksOf (3 + 1) 1
                                    [Value.int IntKind.u64 (f (0 + i.toNat)).seq,
                                      Value.int IntKind.i64 (f (0 + i.toNat)).mi,
                                      Value.int IntKind.i64 (f (0 + i.toNat)).size,
                                      Value.int IntKind.i64 (f (0 + i.toNat)).sent]).getD
                                j [])
                            0)]))))))))
      (T.ret
        (Exit.exit 0,
          [AV.e (EV.s (SV.ptr 0 0)), AV.e (EV.s (SV.d (Value.int IntKind.u64 seq))), AV.e (EV.s (SV.ptr 2 0)),
            AV.e (EV.s (SV.d (Value.int IntKind.i64 0))), AV.e (EV.s (SV.sl 4 4 0 k 0)), AV.e (EV.s (SV.ptr 3 0)),
            AV.e (EV.s (SV.c (Value.bool b))), AV.e (EV.s (SV.d (Value.int IntKind.i64 i)))],
          [AB.cells 44
              [SV.d (Value.int IntKind.i64 L.room), SV.d (Value.int IntKind.u64 L.first),
                SV.d (Value.int IntKind.u64 L.next), SV.d (Value.int IntKind.i64 L.last), SV.sl 1 4 0 n 0],
            AB.row 36 4 n (pkF f),
            AB.cells 36
              [SV.d (Value.int IntKind.u64 0), SV.d (Value.int IntKind.i64 0), SV.d (Value.int IntKind.i64 0),
                SV.d (Value.int IntKind.i64 0)],
            AB.cells 36
              [SV.d (Value.int IntKind.u64 p.seq), SV.d (Value.int IntKind.i64 p.mi), SV.d (Value.int IntKind.i64 p.size),
                SV.d (Value.int IntKind.i64 p.sent)],
            AB.row 36 4 k g])) := by kernel_rfl


noncomputable def t15kt (L : LSt) (n : Nat) (f : Nat → Pkt) (seq : Int) (p : Pkt) (k : Nat) (g : Nat → List Value) (i : Int) (vs : Nat → Value) : T (AV × Heap) := ((t15 L n f seq).go [false, false]).kont (.exit 0) ⟨fat [0, 1, 4, 5, 6, 7, 8, 9] vs (x15 seq k true i) 69 0, H15 L n f p k g⟩

theorem t15kt_eq (L : LSt) (n : Nat) (f : Nat → Pkt) (seq : Int) (p : Pkt) (k : Nat) (g : Nat → List Value) (i : Int) (vs : Nat → Value) : t15kt L n f seq p k g i vs =
    T.ret
      (AV.tup
          [EV.agg
              [SV.d (Value.int IntKind.u64 p.seq), SV.d (Value.int IntKind.i64 p.mi), SV.d (Value.int IntKind.i64 p.size),
                SV.d (Value.int IntKind.i64 p.sent)],
            EV.s (SV.c (Value.int IntKind.i64 0))],
        [AB.cells 44
            [SV.d (Value.int IntKind.i64 L.room), SV.d (Value.int IntKind.u64 L.first), SV.d (Value.int IntKind.u64 L.next),
              SV.d (Value.int IntKind.i64 L.last), SV.sl 4 4 0 k 0],
          AB.row 36 4 n (pkF f),
          AB.cells 36
            [SV.d (Value.int IntKind.u64 p.seq), SV.d (Value.int IntKind.i64 p.mi), SV.d (Value.int IntKind.i64 p.size),
              SV.d (Value.int IntKind.i64 p.sent)],
          AB.cells 36
            [SV.d (Value.int IntKind.u64 p.seq), SV.d (Value.int IntKind.i64 p.mi), SV.d (Value.int IntKind.i64 p.size),
              SV.d (Value.int IntKind.i64 p.sent)],
          AB.row 36 4 k g]) := by kernel_rfl


noncomputable def t15kf (L : LSt) (n : Nat) (f : Nat → Pkt) (seq : Int) (p : Pkt) (k : Nat) (g : Nat → List Value) (i : Int) (vs : Nat → Value) : T (AV × Heap) := ((t15 L n f seq).go [false, false]).kont (.exit 0) ⟨fat [0, 1, 4, 5, 6, 7, 8, 9] vs (x15 seq k false i) 69 0, H15 L n f p k g⟩

theorem t15kf_eq (L : LSt) (n : Nat) (f : Nat → Pkt) (seq : Int) (p : Pkt) (k : Nat) (g : Nat → List Value) (i : Int) (vs : Nat → Value) : t15kf L n f seq p k g i vs =
    T.ret
      (AV.tup
          [EV.agg
              [SV.c (Value.int IntKind.u64 0), SV.c (Value.int IntKind.i64 0), SV.c (Value.int IntKind.i64 0),
                SV.c (Value.int IntKind.i64 0)],
            EV.s (SV.c (Value.int IntKind.i64 4))],
        [AB.cells 44
            [SV.d (Value.int IntKind.i64 L.room), SV.d (Value.int IntKind.u64 L.first), SV.d (Value.int IntKind.u64 L.next),
              SV.d (Value.int IntKind.i64 L.last), SV.sl 1 4 0 n 0],
          AB.row 36 4 n (pkF f)]) := by kernel_rfl


noncomputable def t18 (L : LSt) (n : Nat) (f : Nat → Pkt) (att tmo : Int) : T (AV × Heap) := callT Try.prog (entL e18) 2 18 [.e (.s (.ptr 0 0)), .d (.int .i64 att), .d (.int .i64 tmo)] [.cells 44 (rc L 1 n), .row 36 4 n (pkF f)] fun r H' => .ret (r, H')

theorem t18_eq (L : LSt) (n : Nat) (f : Nat → Pkt) (att tmo : Int) : t18 L n f att tmo =
    T.code 2 (loopAt Try.prog 18 0).loop
      {
        fr :=
          [AV.e (EV.s (SV.ptr 0 0)), AV.e (EV.s (SV.d (Value.int IntKind.i64 att))),
            AV.e (EV.s (SV.d (Value.int IntKind.i64 tmo))), AV.tup [], AV.tup [], AV.tup [],
            AV.e (EV.s (SV.c (Value.slice none 0 0))), AV.e (EV.s (SV.c (Value.slice none 0 0))),
            AV.e (EV.s (SV.c (Value.slice none 0 0))), AV.e (EV.s (SV.c (Value.int IntKind.i64 0))), AV.tup [], AV.tup [],
            AV.tup [], AV.tup [], AV.tup [], AV.tup [], AV.tup [], AV.tup [], AV.tup [], AV.tup [], AV.tup [], AV.tup [],
            AV.tup [], AV.tup [], AV.tup [], AV.tup [], AV.tup [], AV.tup [], AV.tup [], AV.tup [], AV.tup [], AV.tup [],
            AV.tup [], AV.tup [], AV.tup [], AV.tup [], AV.tup [], AV.tup [], AV.tup [], AV.tup [], AV.tup [], AV.tup [],
            AV.tup [], AV.tup [], AV.tup [], AV.tup [], AV.tup [], AV.tup [], AV.tup [], AV.tup [], AV.tup [], AV.tup [],
            AV.tup [], AV.tup []],
        H :=
          [AB.cells 44
              [SV.d (Value.int IntKind.i64 L.room), SV.d (Value.int IntKind.u64 L.first),
                SV.d (Value.int IntKind.u64 L.next), SV.d (Value.int IntKind.i64 L.last), SV.sl 1 4 0 n 0],
            AB.row 36 4 n (pkF f)] :
        St }
      (T.go [] (t18 L n f att tmo)).kont := by kernel_rfl


def H18 (L : LSt) (n : Nat) (f : Nat → Pkt) (k : Nat) (g : Nat → List Value) (m : Nat) (h : Nat → List Value) : Heap := [.cells 44 (rc L 1 n), .row 36 4 n (pkF f), .row 36 4 k g, .row 36 4 m h]
def x18 (att tmo : Int) (k m : Nat) (i : Int) : List AV := [.e (.s (.ptr 0 0)), .d (.int .i64 att), .d (.int .i64 tmo), .e (.s (.sl 2 4 0 k 0)), .e (.s (.sl 3 4 0 m 0)), .d (.int .i64 i)]

noncomputable def t18b (L : LSt) (n : Nat) (f : Nat → Pkt) (att tmo : Int) (k : Nat) (g : Nat → List Value) (m : Nat) (h : Nat → List Value) (i : Int) (vs : Nat → Value) : T (Exit × List AV × Heap) := bodyT Try.prog e18 1 oN 2 (loopAt Try.prog 18 0) [0, 1, 2, 7, 8, 9] 54 (x18 att tmo k m i) (H18 L n f k g m h) vs

theorem t18b_eq (L : LSt) (n : Nat) (f : Nat → Pkt) (att tmo : Int) (k : Nat) (g : Nat → List Value) (m : Nat) (h : Nat → List Value) (i : Int) (vs : Nat → Value) : t18b L n f att tmo k g m h i vs =
    T.ite (decide (i < (↑n : Int)))
      (T.need (0 ≤ i ∧ i < (↑n : Int))
        (T.need (0 + i.toNat < n)
          (T.need (I64 att ∧ I64 tmo ∧ 0 ≤ (f (0 + i.toNat)).sent ∧ (f (0 + i.toNat)).sent ≤ 1099511627776)
            (T.ite (overX att tmo (f (0 + i.toNat)))
              (T.need (0 ≤ i ∧ i < (↑n : Int))
                (T.need (0 + i.toNat < n)
                  (T.need
                    (0 + m ≤ m ∧
                      0 + 1 ≤
                          (chunksOf (3 + 1) 1
                              [Value.int IntKind.u64 (f (0 + i.toNat)).seq, Value.int IntKind.i64 (f (0 + i.toNat)).mi,
                                Value.int IntKind.i64 (f (0 + i.toNat)).size,
                                Value.int IntKind.i64 (f (0 + i.toNat)).sent]).length ∧
                        m + 1 ≤ most)
                    (T.ret
                      (Exit.normal,
                        [AV.e (EV.s (SV.ptr 0 0)), AV.e (EV.s (SV.d (Value.int IntKind.i64 att))),
                          AV.e (EV.s (SV.d (Value.int IntKind.i64 tmo))), AV.e (EV.s (SV.sl 2 4 0 k 0)),
                          AV.e (EV.s (SV.sl 5 4 0 (m + 1) 0)),
                          AV.e (EV.s (SV.d (Value.int IntKind.i64 (IntKind.i64.wrap (i + 1)))))],
                        [AB.cells 44
                            [SV.d (Value.int IntKind.i64 L.room), SV.d (Value.int IntKind.u64 L.first),
                              SV.d (Value.int IntKind.u64 L.next), SV.d (Value.int IntKind.i64 L.last), SV.sl 1 4 0 n 0],
                          AB.row 36 4 n (pkF f), AB.row 36 4 k g, AB.dead,
                          AB.lit 36 4
                            [[Value.int IntKind.u64 (f (0 + i.toNat)).seq, Value.int IntKind.i64 (f (0 + i.toNat)).mi,
                                Value.int IntKind.i64 (f (0 + i.toNat)).size,
                                Value.int IntKind.i64 (f (0 + i.toNat)).sent]],
                          AB.row 36 4 (m + 1)
                            (appendG h 0 m
                              (fun j =>
                                (chunksOf (3 + 1) 1
                                      [Value.int IntKind.u64 (f (0 + i.toNat)).seq,
                                        Value.int IntKind.i64 (f (0 + i.toNat)).mi,
                                        Value.int IntKind.i64 (f (0 + i.toNat)).size,
                                        Value.int IntKind.i64 (f (0 + i.toNat)).sent]).getD
                                  j [])
                              0)])))))
              (T.need (0 ≤ i ∧ i < (↑n : Int))
                (T.need (0 + i.toNat < n)
                  (T.need
                    (0 + k ≤ k ∧
                      0 + 1 ≤
                          (chunksOf (3 + 1) 1
                              [Value.int IntKind.u64 (f (0 + i.toNat)).seq, Value.int IntKind.i64 (f (0 + i.toNat)).mi,
                                Value.int IntKind.i64 (f (0 + i.toNat)).size,
                                Value.int IntKind.i64 (f (0 + i.toNat)).sent]).length ∧
                        k + 1 ≤ most)
                    (T.ret
                      (Exit.normal,
                        [AV.e (EV.s (SV.ptr 0 0)), AV.e (EV.s (SV.d (Value.int IntKind.i64 att))),
                          AV.e (EV.s (SV.d (Value.int IntKind.i64 tmo))), AV.e (EV.s (SV.sl 5 4 0 (k + 1) 0)),
                          AV.e (EV.s (SV.sl 3 4 0 m 0)),
                          AV.e (EV.s (SV.d (Value.int IntKind.i64 (IntKind.i64.wrap (i + 1)))))],
                        [AB.cells 44
                            [SV.d (Value.int IntKind.i64 L.room), SV.d (Value.int IntKind.u64 L.first),
                              SV.d (Value.int IntKind.u64 L.next), SV.d (Value.int IntKind.i64 L.last), SV.sl 1 4 0 n 0],
                          AB.row 36 4 n (pkF f), AB.dead, AB.row 36 4 m h,
                          AB.lit 36 4
                            [[Value.int IntKind.u64 (f (0 + i.toNat)).seq, Value.int IntKind.i64 (f (0 + i.toNat)).mi,
                                Value.int IntKind.i64 (f (0 + i.toNat)).size,
                                Value.int IntKind.i64 (f (0 + i.toNat)).sent]],
                          AB.row 36 4 (k + 1)
                            (appendG g 0 k
                              (fun j =>
                                (chunksOf (3 + 1) 1
                                      [Value.int IntKind.u64 (f (0 + i.toNat)).seq,
                                        Value.int IntKind.i64 (f (0 + i.toNat)).mi,
                                        Value.int IntKind.i64 (f (0 + i.toNat)).size,
                                        Value.int IntKind.i64 (f (0 + i.toNat)).sent]).getD
                                  j [])
                              0)])))))))))
      (T.ret
        (Exit.exit 0,
          [AV.e (EV.s (SV.ptr 0 0)), AV.e (EV.s (SV.d (Value.int IntKind.i64 att))),
            AV.e (EV.s (SV.d (Value.int IntKind.i64 tmo))), AV.e (EV.s (SV.sl 2 4 0 k 0)), AV.e (EV.s (SV.sl 3 4 0 m 0)),
            AV.e (EV.s (SV.d (Value.int IntKind.i64 i)))],
          [AB.cells 44
              [SV.d (Value.int IntKind.i64 L.room), SV.d (Value.int IntKind.u64 L.first),
                SV.d (Value.int IntKind.u64 L.next), SV.d (Value.int IntKind.i64 L.last), SV.sl 1 4 0 n 0],
            AB.row 36 4 n (pkF f), AB.row 36 4 k g, AB.row 36 4 m h])) := by kernel_rfl


noncomputable def t18k (L : LSt) (n : Nat) (f : Nat → Pkt) (att tmo : Int) (k : Nat) (g : Nat → List Value) (m : Nat) (h : Nat → List Value) (i : Int) (vs : Nat → Value) : T (AV × Heap) := ((t18 L n f att tmo).go []).kont (.exit 0) ⟨fat [0, 1, 2, 7, 8, 9] vs (x18 att tmo k m i) 54 0, H18 L n f k g m h⟩

theorem t18k_eq (L : LSt) (n : Nat) (f : Nat → Pkt) (att tmo : Int) (k : Nat) (g : Nat → List Value) (m : Nat) (h : Nat → List Value) (i : Int) (vs : Nat → Value) : t18k L n f att tmo k g m h i vs =
    T.ret
      (AV.e (EV.s (SV.sl 3 4 0 m 0)),
        [AB.cells 44
            [SV.d (Value.int IntKind.i64 L.room), SV.d (Value.int IntKind.u64 L.first), SV.d (Value.int IntKind.u64 L.next),
              SV.d (Value.int IntKind.i64 L.last), SV.sl 2 4 0 k 0],
          AB.row 36 4 n (pkF f), AB.row 36 4 k g, AB.row 36 4 m h]) := by kernel_rfl


def H17 (L : LSt) (es : List Pkt) (att tmo : Int) (n : Nat) (f : Nat → Pkt) : Heap := [.cells 86 (lc L 1), .pm es, .cells 3 [.d (.int .i64 att)], .cells 3 [.d (.int .i64 tmo)], .row 36 4 n (pkF f)]
def x17 (n : Nat) (i : Int) : List AV := [.e (.s (.ptr 0 0)), .e (.s (.sl 4 4 0 n 0)), .e (.s (.sl 4 4 0 n 0)), .d (.int .i64 n), .d (.int .i64 i)]

noncomputable def t17c (L : LSt) (att tmo : Int) (n : Nat) (f : Nat → Pkt) : T (AV × Heap) := ((t17 L att tmo).go []).kontC (.e (.s (.sl 4 4 0 n 0))) (H17 L L.es att tmo n f)

theorem t17c_eq (L : LSt) (att tmo : Int) (n : Nat) (f : Nat → Pkt) : t17c L att tmo n f =
    T.code 2 (loopAt Try.prog 17 0).loop
      {
        fr :=
          [AV.e (EV.s (SV.ptr 0 0)), AV.e (EV.s (SV.d (Value.int IntKind.i64 att))),
            AV.e (EV.s (SV.d (Value.int IntKind.i64 tmo))), AV.tup [], AV.e (EV.s (SV.ptr 2 0)), AV.e (EV.s (SV.ptr 3 0)),
            AV.e (EV.s (SV.c (Value.slice none 0 0))), AV.e (EV.s (SV.sl 4 4 0 n 0)), AV.tup [], AV.tup [],
            AV.e (EV.s (SV.ptr 0 0)), AV.e (EV.s (SV.c (Value.bool false))), AV.e (EV.s (SV.ptr 0 0)),
            AV.e (EV.s (SV.fn 42 [(2, 0), (3, 0)])), AV.e (EV.s (SV.sl 4 4 0 n 0)), AV.e (EV.s (SV.sl 4 4 0 n 0)),
            AV.e (EV.s (SV.d (Value.int IntKind.i64 (↑n : Int)))), AV.e (EV.s (SV.c (Value.int IntKind.i64 0))), AV.tup [],
            AV.tup [], AV.tup [], AV.tup [], AV.tup [], AV.tup [], AV.tup [], AV.tup [], AV.tup [], AV.tup [], AV.tup []],
        H :=
          [AB.cells 86
              [SV.d (Value.int IntKind.i64 L.room), SV.d (Value.int IntKind.u64 L.first),
                SV.d (Value.int IntKind.u64 L.next), SV.d (Value.int IntKind.i64 L.last), SV.mp 1],
            AB.pm L.es, AB.cells 3 [SV.d (Value.int IntKind.i64 att)], AB.cells 3 [SV.d (Value.int IntKind.i64 tmo)],
            AB.row 36 4 n (pkF f)] :
        St }
      (T.go [] (t17c L att tmo n f)).kont := by kernel_rfl


noncomputable def t17b (L : LSt) (es : List Pkt) (att tmo : Int) (n : Nat) (f : Nat → Pkt) (i : Int) (vs : Nat → Value) : T (Exit × List AV × Heap) := bodyT Try.prog e17 1 o17 2 (loopAt Try.prog 17 0) [0, 7, 15, 16, 17] 29 (x17 n i) (H17 L es att tmo n f) vs

theorem t17b_eq (L : LSt) (es : List Pkt) (att tmo : Int) (n : Nat) (f : Nat → Pkt) (i : Int) (vs : Nat → Value) : t17b L es att tmo n f i vs =
    T.ite (decide (i < (↑n : Int)))
      (T.need (0 ≤ i ∧ i < (↑n : Int))
        (T.need (0 + i.toNat < n)
          (T.ret
            (Exit.normal,
              [AV.e (EV.s (SV.ptr 0 0)), AV.e (EV.s (SV.sl 4 4 0 n 0)), AV.e (EV.s (SV.sl 4 4 0 n 0)),
                AV.e (EV.s (SV.d (Value.int IntKind.i64 (↑n : Int)))),
                AV.e (EV.s (SV.d (Value.int IntKind.i64 (IntKind.i64.wrap (i + 1)))))],
              [AB.cells 86
                  [SV.d (Value.int IntKind.i64 L.room), SV.d (Value.int IntKind.u64 L.first),
                    SV.d (Value.int IntKind.u64 L.next), SV.d (Value.int IntKind.i64 L.last), SV.mp 1],
                AB.pm (delP es (f (0 + i.toNat)).seq), AB.cells 3 [SV.d (Value.int IntKind.i64 att)],
                AB.cells 3 [SV.d (Value.int IntKind.i64 tmo)], AB.row 36 4 n (pkF f),
                AB.cells 36
                  [SV.d (Value.int IntKind.u64 (f (0 + i.toNat)).seq), SV.d (Value.int IntKind.i64 (f (0 + i.toNat)).mi),
                    SV.d (Value.int IntKind.i64 (f (0 + i.toNat)).size),
                    SV.d (Value.int IntKind.i64 (f (0 + i.toNat)).sent)]]))))
      (T.ret
        (Exit.exit 0,
          [AV.e (EV.s (SV.ptr 0 0)), AV.e (EV.s (SV.sl 4 4 0 n 0)), AV.e (EV.s (SV.sl 4 4 0 n 0)),
            AV.e (EV.s (SV.d (Value.int IntKind.i64 (↑n : Int)))), AV.e (EV.s (SV.d (Value.int IntKind.i64 i)))],
          [AB.cells 86
              [SV.d (Value.int IntKind.i64 L.room), SV.d (Value.int IntKind.u64 L.first),
                SV.d (Value.int IntKind.u64 L.next), SV.d (Value.int IntKind.i64 L.last), SV.mp 1],
            AB.pm es, AB.cells 3 [SV.d (Value.int IntKind.i64 att)], AB.cells 3 [SV.d (Value.int IntKind.i64 tmo)],
            AB.row 36 4 n (pkF f)])) := by kernel_rfl


noncomputable def t17k (L : LSt) (es : List Pkt) (att tmo : Int) (n : Nat) (f : Nat → Pkt) (i : Int) (vs : Nat → Value) : T (AV × Heap) := ((t17c L att tmo n f).go []).kont (.exit 0) ⟨fat [0, 7, 15, 16, 17] vs (x17 n i) 29 0, H17 L es att tmo n f⟩

theorem t17k_eq (L : LSt) (es : List Pkt) (att tmo : Int) (n : Nat) (f : Nat → Pkt) (i : Int) (vs : Nat → Value) : t17k L es att tmo n f i vs =
    T.ret
      (AV.e (EV.s (SV.sl 4 4 0 n 0)),
        [AB.cells 86
            [SV.d (Value.int IntKind.i64 L.room), SV.d (Value.int IntKind.u64 L.first), SV.d (Value.int IntKind.u64 L.next),
              SV.d (Value.int IntKind.i64 L.last), SV.mp 1],
          AB.pm es, AB.cells 3 [SV.d (Value.int IntKind.i64 att)], AB.cells 3 [SV.d (Value.int IntKind.i64 tmo)],
          AB.row 36 4 n (pkF f)]) := by kernel_rfl


noncomputable def t19c (L : LSt) (n : Nat) (f : Nat → Pkt) : T (AV × Heap) := ((t19 L).go []).kontC (.e (.s (.sl 2 4 0 n 0))) [.cells 86 (lc L 1), .pm L.es, .row 36 4 n (pkF f)]

theorem t19c_eq (L : LSt) (n : Nat) (f : Nat → Pkt) : t19c L n f =
    T.ret
      (AV.e (EV.s (SV.sl 2 4 0 n 0)),
        [AB.cells 86
            [SV.d (Value.int IntKind.i64 L.room), SV.d (Value.int IntKind.u64 L.first), SV.d (Value.int IntKind.u64 L.next),
              SV.d (Value.int IntKind.i64 L.last), SV.mp 1],
          AB.pm L.es, AB.row 36 4 n (pkF f)]) := by kernel_rfl


theorem kl15 : codeB oN (loopAt Try.prog 15 0) = true := by kernel_rfl
theorem kl18 : codeB oN (loopAt Try.prog 18 0) = true := by kernel_rfl
theorem kl17 : codeB o17 (loopAt Try.prog 17 0) = true := by kernel_rfl

end Go.Proofs.Ythckkoledhjmeaa.Ev

/-
  A ledger in plain words; that the program's and the document's do so: sending, and taking from the program's.
-/
namespace Go.Proofs.Ythckkoledhjmeaa.Ev
open Go

structure LSt.Ok (L : LSt) : Prop where
  sorted : L.es.Pairwise fun a b => a.seq < b.seq
  lo : ∀ p ∈ L.es, L.first ≤ p.seq ∧ p.seq < L.next
  room : 1 ≤ L.room ∧ L.room ≤ 4096
  len : (L.es.length : Int) ≤ L.room
  first : 0 ≤ L.first ∧ L.first ≤ L.next
  next : L.next ≤ 18446744073709551615
  last : 0 ≤ L.last ∧ L.last ≤ 1099511627776
  sent : ∀ p ∈ L.es, 0 ≤ p.sent ∧ p.sent ≤ L.last
  pk : ∀ p ∈ L.es, 0 ≤ p.mi ∧ 1 ≤ p.size ∧ p.size ≤ 9000

def newL (room first : Int) : LSt := ⟨room, first, first, 0, []⟩

def sendE (L : LSt) (mi size at' : Int) : Int :=
  if mi < 0 then 1 else if size < 1 then 9 else if size > 9000 then 9 else if at' < L.last then 10 else if at' > 1099511627776 then 10 else if (L.es.length : Int) = L.room then 2 else if L.next = 18446744073709551615 then 15 else 0
def sendN (L : LSt) (mi size at' : Int) : Int := if sendE L mi size at' = 0 then L.next else 0
def sendL (L : LSt) (mi size at' : Int) : LSt := if sendE L mi size at' = 0 then ⟨L.room, L.first, L.next + 1, at', L.es ++ [⟨L.next, mi, size, at'⟩]⟩ else L
def sendR (L : LSt) (mi size at' : Int) : AV := .tup [.s (.d (.int .u64 (sendN L mi size at'))), .s (.d (.int .i64 (sendE L mi size at')))]

def takeE (L : LSt) (seq : Int) : Int := if seq < L.first then 3 else if seq ≥ L.next then 3 else if hasP L.es seq then 0 else 4
def takeP (L : LSt) (seq : Int) : Pkt := if takeE L seq = 0 then findP L.es seq else Pkt.zero
def takeL (L : LSt) (seq : Int) : LSt := if takeE L seq = 0 then ⟨L.room, L.first, L.next, L.last, delP L.es seq⟩ else L
def takeR (L : LSt) (seq : Int) : AV := .tup [.agg (takeP L seq).cells, .s (.d (.int .i64 (takeE L seq)))]

def expP (L : LSt) (att tmo : Int) : List Pkt := L.es.filter (overX att tmo)
def expL (L : LSt) (att tmo : Int) : LSt := ⟨L.room, L.first, L.next, L.last, L.es.filter fun p => !overX att tmo p⟩

section
variable {L : LSt}

theorem LSt.Ok.fresh (h : L.Ok) : hasP L.es L.next = false := by
  rw [Bool.eq_false_iff]
  intro hh
  simp only [hasP, List.any_eq_true, beq_iff_eq] at hh
  obtain ⟨p, hp, he⟩ := hh
  have := (h.lo p hp).2
  omega

theorem okL_new {room first : Int} (h1 : 1 ≤ room) (h2 : room ≤ 4096) (h3 : 0 ≤ first) (h4 : first ≤ 18446744073709551615) : (newL room first).Ok where
  sorted := List.Pairwise.nil
  lo p hp := by cases hp
  room := ⟨h1, h2⟩
  len := by simp only [newL, List.length_nil]; omega
  first := ⟨h3, Int.le_refl _⟩
  next := h4
  last := ⟨Int.le_refl _, by simp [newL]⟩
  sent p hp := by cases hp
  pk p hp := by cases hp

theorem sendE_zero {mi size at' : Int} (h : sendE L mi size at' = 0) : 0 ≤ mi ∧ 1 ≤ size ∧ size ≤ 9000 ∧ L.last ≤ at' ∧ at' ≤ 1099511627776 ∧ (L.es.length : Int) ≠ L.room ∧ L.next ≠ 18446744073709551615 := by
  unfold sendE at h
  split at h
  · cases h
  split at h
  · cases h
  split at h
  · cases h
  split at h
  · cases h
  split at h
  · cases h
  split at h
  · cases h
  split at h
  · cases h
  refine ⟨by omega, by omega, by omega, by omega, by omega, by assumption, by assumption⟩

theorem okL_send (h : L.Ok) (mi size at' : Int) : (sendL L mi size at').Ok := by
  unfold sendL
  split
  · rename_i h0
    obtain ⟨h1, h2, h3, h4, h5, h6, h7⟩ := sendE_zero h0
    have hn := h.next
    have hf := h.first
    have hl := h.last
    have hlen := h.len
    refine ⟨?_, fun p hp => ?_, h.room, ?_, ?_, ?_, ?_, fun p hp => ?_, fun p hp => ?_⟩
    · simp only [List.pairwise_append, List.pairwise_cons, List.not_mem_nil, false_implies, implies_true, List.Pairwise.nil, and_self, List.mem_singleton, true_and]
      refine ⟨h.sorted, fun a ha b hb => ?_⟩
      subst hb
      exact (h.lo a ha).2
    · rcases List.mem_append.1 hp with hp | hp
      · have := h.lo p hp; exact ⟨this.1, by simp only []; omega⟩
      · simp only [List.mem_singleton] at hp; subst hp; exact ⟨hf.2, by simp only []; omega⟩
    · simp only [List.length_append, List.length_singleton]; omega
    · exact ⟨hf.1, by simp only []; omega⟩
    · simp only []; omega
    · exact ⟨by simp only []; omega, h5⟩
    · rcases List.mem_append.1 hp with hp | hp
      · have := h.sent p hp; exact ⟨this.1, by simp only []; omega⟩
      · simp only [List.mem_singleton] at hp; subst hp; exact ⟨by simp only []; omega, Int.le_refl _⟩
    · rcases List.mem_append.1 hp with hp | hp
      · exact h.pk p hp
      · simp only [List.mem_singleton] at hp; subst hp; exact ⟨h1, h2, h3⟩
  · exact h

theorem okL_sub (h : L.Ok) {es : List Pkt} (hs : es.Sublist L.es) : (⟨L.room, L.first, L.next, L.last, es⟩ : LSt).Ok where
  sorted := h.sorted.sublist hs
  lo p hp := h.lo p (hs.subset hp)
  room := h.room
  len := by have := hs.length_le; have := h.len; simp only []; omega
  first := h.first
  next := h.next
  last := h.last
  sent p hp := h.sent p (hs.subset hp)
  pk p hp := h.pk p (hs.subset hp)

theorem okL_take (h : L.Ok) (seq : Int) : (takeL L seq).Ok := by
  unfold takeL
  split
  · exact okL_sub h (List.eraseP_sublist)
  · exact h

theorem okL_exp (h : L.Ok) (att tmo : Int) : (expL L att tmo).Ok := okL_sub h List.filter_sublist

theorem delP_filter : ∀ {es : List Pkt}, es.Pairwise (fun a b => a.seq < b.seq) → ∀ s, delP es s = es.filter fun p => !(p.seq == s)
  | [], _, s => rfl
  | p :: es, h, s => by
    have ih := delP_filter (List.pairwise_cons.1 h).2 s
    unfold delP at ih ⊢
    rw [List.eraseP_cons, List.filter_cons]
    by_cases hp : s = p.seq
    · subst hp
      simp only [beq_self_eq_true, Bool.not_true, Bool.false_eq_true, if_false, cond_true]
      symm
      rw [List.filter_eq_self]
      intro q hq
      have := (List.pairwise_cons.1 h).1 q hq
      simp only [Bool.not_eq_true', beq_eq_false_iff_ne, ne_eq]
      omega
    · have h1 : (s == p.seq) = false := by simpa using hp
      have h2 : (p.seq == s) = false := by simpa using fun e => hp e.symm
      simp only [h1, h2, ih, Bool.not_false, if_true, cond_false]

end

theorem e12ok : EntsOk Try.prog e12 := ⟨k12, trivial⟩
theorem e14ok : EntsOk Try.prog e14 := ⟨k14, trivial⟩
theorem e13ok : EntsOk Try.prog e13 := ⟨k13, k39, k40, trivial⟩

theorem wrapU {x : Int} (h1 : 0 ≤ x) (h2 : x < 18446744073709551616) : IntKind.u64.wrap x = x := by rw [IntKind.wrap_u64]; omega

def lhp (L : LSt) : Heap := [.cells 86 (lc L 1), .pm L.es]
def rhp (L : LSt) : Heap := [.cells 44 (rc L 1 L.es.length), .row 36 4 L.es.length (pkG L.es)]
def rhp2 (L : LSt) : Heap := [.cells 44 (rc L 2 L.es.length), .dead, .row 36 4 L.es.length (pkG L.es)]

theorem send12 (L : LSt) (h : L.Ok) (mi size at' : Int) :
    CallsA Try.prog 12 [.e (.s (.ptr 0 0)), .d (.int .i64 mi), .d (.int .i64 size), .d (.int .i64 at')] (lhp L) fun r H' => r = sendR L mi size at' ∧ H' = lhp (sendL L mi size at') := by
  refine CallsA.re (calls_of fine e12ok 1 12 _ _ ?_)
  show (t12 L mi size at').sat _ _
  rw [t12_eq]
  have key : ∀ e : Int, sendE L mi size at' = e → e ≠ 0 → Re 2 [.tup [.s (.c (.int .u64 0)), .s (.c (.int .i64 e))]] (lhp L) fun fr H2 => ∃ r2, fr = [r2] ∧ r2 = sendR L mi size at' ∧ H2 = lhp (sendL L mi size at') := by
    intro e he h0
    refine .toD (.refl ⟨_, rfl, ?_, ?_⟩)
    · simp [sendR, sendN, he, h0, AV.toD, EV.toD, SV.toD]
    · have : sendL L mi size at' = L := by simp [sendL, he, h0]
      rw [this]; rfl
  refine ⟨fun h1 => key 1 ?_ (by decide), fun h1 => ⟨fun h2 => key 9 ?_ (by decide), fun h2 => ⟨fun h3 => key 9 ?_ (by decide), fun h3 => ⟨fun h4 => key 10 ?_ (by decide), fun h4 => ⟨fun h5 => key 10 ?_ (by decide), fun h5 => ⟨fun h6 => key 2 ?_ (by decide), fun h6 => ⟨fun h7 => key 15 ?_ (by decide), fun h7 => ⟨⟨rfl, h.fresh⟩, ?_⟩⟩⟩⟩⟩⟩⟩⟩ <;>
    simp only [decide_eq_true_eq, decide_eq_false_iff_not, beq_iff_eq, beq_eq_false_iff_ne, ne_eq] at *
  · simp [sendE, h1]
  · simp [sendE, h1, h2]
  · simp [sendE, h1, h2, h3]
  · simp [sendE, h1, h2, h3, h4]
  · simp [sendE, h1, h2, h3, h4, h5]
  · simp [sendE, h1, h2, h3, h4, h5, h6]
  · simp [sendE, h1, h2, h3, h4, h5, h6, h7]
  · have hE : sendE L mi size at' = 0 := by simp [sendE, h1, h2, h3, h4, h5, h6, h7]
    have hw : IntKind.u64.wrap (L.next + 1) = L.next + 1 := wrapU (by have := h.first; omega) (by have := h.next; omega)
    refine .toD (.refl ⟨_, rfl, ?_, ?_⟩)
    · simp [sendR, sendN, hE, AV.toD, EV.toD, SV.toD]
    · have : sendL L mi size at' = ⟨L.room, L.first, L.next + 1, at', L.es ++ [⟨L.next, mi, size, at'⟩]⟩ := by simp [sendL, hE]
      rw [this, hw]; rfl

theorem take14 (L : LSt) (seq : Int) :
    CallsA Try.prog 14 [.e (.s (.ptr 0 0)), .d (.int .u64 seq)] (lhp L) fun r H' => r = takeR L seq ∧ H' = lhp (takeL L seq) := by
  refine CallsA.re (calls_of fine e14ok 1 14 _ _ ?_)
  show (t14 L seq).sat _ _
  rw [t14_eq]
  have key : ∀ e : Int, takeE L seq = e → e ≠ 0 → Re 2 [.tup [.agg [.c (.int .u64 0), .c (.int .i64 0), .c (.int .i64 0), .c (.int .i64 0)], .s (.c (.int .i64 e))]] (lhp L) fun fr H2 => ∃ r2, fr = [r2] ∧ r2 = takeR L seq ∧ H2 = lhp (takeL L seq) := by
    intro e he h0
    refine .toD (.refl ⟨_, rfl, ?_, ?_⟩)
    · simp [takeR, takeP, he, h0, AV.toD, EV.toD, SV.toD, Pkt.zero, Pkt.cells]
    · have : takeL L seq = L := by simp [takeL, he, h0]
      rw [this]; rfl
  refine ⟨fun h1 => key 3 ?_ (by decide), fun h1 => ⟨fun h2 => key 3 ?_ (by decide), fun h2 => ⟨fun h3 => ?_, fun h3 => key 4 ?_ (by decide)⟩⟩⟩ <;>
    simp only [decide_eq_true_eq, decide_eq_false_iff_not] at *
  · simp [takeE, h1]
  · simp only [takeE, h1, if_false]; rw [if_pos h2]
  · have hE : takeE L seq = 0 := by simp only [takeE, h1, h3, if_false, if_true]; rw [if_neg h2]
    refine .toD (.refl ⟨_, rfl, ?_, ?_⟩)
    · simp [takeR, takeP, hE, AV.toD, EV.toD, SV.toD, Pkt.cells]
    · have : takeL L seq = ⟨L.room, L.first, L.next, L.last, delP L.es seq⟩ := by simp [takeL, hE]
      rw [this]; rfl
  · simp only [takeE, h1, h3, if_false]; rw [if_neg h2]; rfl

theorem send13 (L : LSt) (h : L.Ok) (mi size at' : Int) :
    CallsA Try.prog 13 [.e (.s (.ptr 0 0)), .d (.int .i64 mi), .d (.int .i64 size), .d (.int .i64 at')] (rhp L) fun r H' => r = sendR L mi size at' ∧ H' = rhp2 (sendL L mi size at') := by
  refine CallsA.re (calls_of fine e13ok 2 13 _ _ ?_)
  show (t13 L L.es.length (pkG L.es) mi size at').sat _ _
  rw [t13_eq]
  have key : ∀ e : Int, sendE L mi size at' = e → e ≠ 0 → Re 2 [.tup [.s (.c (.int .u64 0)), .s (.c (.int .i64 e))]] (rhp L) fun fr H2 => ∃ r2, fr = [r2] ∧ r2 = sendR L mi size at' ∧ H2 = rhp2 (sendL L mi size at') := by
    intro e he h0
    refine .toD (Re.ren [some 0, none, some 1] rfl rfl rfl (.refl ⟨_, rfl, ?_, ?_⟩))
    · simp [sendR, sendN, he, h0]
    · have : sendL L mi size at' = L := by simp [sendL, he, h0]
      rw [this]; rfl
  have hlast := h.last
  have hlen := h.len
  refine ⟨fun h1 => key 1 ?_ (by decide), fun h1 => ⟨fun h2 => ⟨fun h3 => ⟨fun h4 => ⟨fun h5 => ⟨fun h6 => key 10 ?_ (by decide), fun h6 => ⟨fun h7 => key 2 ?_ (by decide), fun h7 => ⟨fun h8 => key 15 ?_ (by decide), fun h8 => ⟨rfl, ⟨by omega, by simp [chunks_len], ?_⟩, ?_⟩⟩⟩⟩, fun h5 => key 10 ?_ (by decide)⟩, fun h4 => key 10 ?_ (by decide)⟩, fun h3 => key 9 ?_ (by decide)⟩, fun h2 => key 9 ?_ (by decide)⟩⟩ <;>
    simp only [decide_eq_true_eq, decide_eq_false_iff_not, beq_iff_eq, beq_eq_false_iff_ne, ne_eq] at *
  · simp [sendE, h1]
  · simp only [sendE]; rw [if_neg h1, if_neg (by omega), if_neg (by omega), if_pos h6]
  · simp only [sendE]; rw [if_neg h1, if_neg (by omega), if_neg (by omega), if_neg h6, if_neg (by omega), if_pos (by omega)]
  · simp only [sendE]; rw [if_neg h1, if_neg (by omega), if_neg (by omega), if_neg h6, if_neg (by omega), if_neg (by omega), if_pos h8]
  · have := h.room; unfold most; omega
  · have hE : sendE L mi size at' = 0 := by simp only [sendE]; rw [if_neg h1, if_neg (by omega), if_neg (by omega), if_neg h6, if_neg (by omega), if_neg (by omega), if_neg h8]
    have hw : IntKind.u64.wrap (L.next + 1) = L.next + 1 := wrapU (by have := h.first; omega) (by have := h.next; omega)
    have hw2 : IntKind.u64.wrap (L.next + 1 - 1) = L.next := by rw [wrapU] <;> have := h.first <;> have := h.next <;> omega
    rw [hw, hw2]
    have hS : sendL L mi size at' = ⟨L.room, L.first, L.next + 1, at', L.es ++ [⟨L.next, mi, size, at'⟩]⟩ := by simp [sendL, hE]
    refine .toD (Re.row 3 (pkG (L.es ++ [⟨L.next, mi, size, at'⟩])) rfl (app_pk L.es _ _ rfl) (Re.ren [some 0, none, some 3] rfl rfl rfl (.refl ⟨_, rfl, ?_, ?_⟩)))
    · simp [sendR, sendN, hE]
    · rw [hS]; simp [rhp2, rc]
  · simp only [sendE]; rw [if_neg h1, if_neg (by omega), if_neg (by omega), if_neg (by omega), if_pos (by omega)]
  · simp only [sendE]; rw [if_neg h1, if_neg (by omega), if_neg (by omega), if_pos (by omega)]
  · simp only [sendE]; rw [if_neg h1, if_neg (by omega), if_pos (by omega)]
  · simp only [sendE]; rw [if_neg h1, if_pos (by omega)]

end Go.Proofs.Ythckkoledhjmeaa.Ev

/-
  The document's ledger: taking, and expiring.
-/
namespace Go.Proofs.Ythckkoledhjmeaa.Ev
open Go

theorem e15ok : EntsOk Try.prog e15 := ⟨k15, trivial⟩
theorem e18ok : EntsOk Try.prog e18 := ⟨k18, s43ok, trivial⟩

theorem take_next {es : List Pkt} {i : Nat} (h : i < es.length) : es.take (i + 1) = es.take i ++ [es.getD i Pkt.zero] := by
  rw [List.take_add_one, List.getElem?_eq_getElem h, List.getD_eq_getElem?_getD, List.getElem?_eq_getElem h]
  rfl

theorem findP_new {es : List Pkt} (hs : es.Pairwise fun a b => a.seq < b.seq) {i : Nat} (h : i < es.length) : findP (es.take i ++ [es.getD i Pkt.zero]) (es.getD i Pkt.zero).seq = es.getD i Pkt.zero := by
  unfold findP
  rw [List.find?_append]
  have : (es.take i).find? (fun p => (es.getD i Pkt.zero).seq == p.seq) = none := by
    rw [List.find?_eq_none]
    intro p hp
    rw [List.getD_eq_getElem?_getD, List.getElem?_eq_getElem h]
    obtain ⟨j, hj, rfl⟩ := List.mem_iff_getElem.1 hp
    rw [List.length_take] at hj
    have := List.pairwise_iff_getElem.1 hs j i (by omega) h (by omega)
    simp only [List.getElem_take, Option.getD_some, beq_iff_eq]
    omega
  rw [this]
  simp

theorem findP_old {es : List Pkt} {s : Int} {q : Pkt} (h : (q.seq == s) = false) : findP (es ++ [q]) s = findP es s := by
  unfold findP
  rw [List.find?_append]
  have : (s == q.seq) = false := by simp only [beq_eq_false_iff_ne, ne_eq] at h ⊢; exact fun e => h e.symm
  cases es.find? (fun p => s == p.seq) <;> simp [this]

theorem hasP_app {es : List Pkt} {s : Int} {q : Pkt} : hasP (es ++ [q]) s = (hasP es s || (s == q.seq)) := by simp [hasP]

theorem x15_eq {seq : Int} {k : Nat} {b : Bool} {i : Int} {k' : Nat} {b' : Bool} {i' : Int} (h1 : k = k') (h2 : b = b') (h3 : i = i') : x15 seq k b i = x15 seq k' b' i' := by rw [h1, h2, h3]

theorem take15 (L : LSt) (h : L.Ok) (seq : Int) :
    CallsA Try.prog 15 [.e (.s (.ptr 0 0)), .d (.int .u64 seq)] (rhp L) fun r H' => r = takeR L seq ∧ H' = rhp2 (takeL L seq) := by
  refine CallsA.re (calls_of fine e15ok 2 15 _ _ ?_)
  have hlen := h.len
  have hroom := h.room
  generalize hf : (fun j => L.es.getD j Pkt.zero) = f
  have hfe : ∀ j, f j = L.es.getD j Pkt.zero := fun j => by rw [← hf]
  have hG : rhp L = [.cells 44 (rc L 1 L.es.length), .row 36 4 L.es.length (pkF f)] := by rw [← hf]; rfl
  rw [hG]
  show (t15 L L.es.length f seq).sat _ _
  rw [t15_eq]
  have key : ∀ e : Int, takeE L seq = e → e ≠ 0 → Re 2 [.tup [.agg [.c (.int .u64 0), .c (.int .i64 0), .c (.int .i64 0), .c (.int .i64 0)], .s (.c (.int .i64 e))]] [.cells 44 (rc L 1 L.es.length), .row 36 4 L.es.length (pkF f)] fun fr H2 => ∃ r2, fr = [r2] ∧ r2 = takeR L seq ∧ H2 = rhp2 (takeL L seq) := by
    intro e he h0
    refine .toD (Re.ren [some 0, none, some 1] rfl rfl rfl (.refl ⟨_, rfl, ?_, ?_⟩))
    · simp [takeR, takeP, he, h0, Pkt.zero, Pkt.cells]
    · have : takeL L seq = L := by simp [takeL, he, h0]
      rw [this, ← hf]; rfl
  refine ⟨fun h1 => key 3 ?_ (by decide), fun h1 => ⟨fun h2 => key 3 ?_ (by decide), fun h2 => ?_⟩⟩ <;>
    simp only [decide_eq_true_eq, decide_eq_false_iff_not] at *
  · simp [takeE, h1]
  · simp only [takeE, h1, if_false]; rw [if_pos h2]
  · refine code_loop fine e15ok 1 (live := [0, 1, 4, 5, 6, 7, 8, 9]) (N := 69) kl15
      (fun xs H => ∃ i : Nat, i ≤ L.es.length ∧ xs = x15 seq ((L.es.take i).filter fun p => !(p.seq == seq)).length (hasP (L.es.take i) seq) i ∧
        H = H15 L L.es.length f (findP (L.es.take i) seq) ((L.es.take i).filter fun p => !(p.seq == seq)).length (pkG ((L.es.take i).filter fun p => !(p.seq == seq))))
      (fun xs _ => L.es.length - ctr 7 xs) ?_ ?_ rfl ?_
    · rintro xs H ⟨i, _, _, rfl⟩; show 2 ≤ 5; omega
    · intro xs H vs hI
      cases hI with | intro i hI =>
      have hi := hI.1
      have hxs := hI.2.1
      have hH := hI.2.2
      clear hI
      rw [hxs, hH]
      generalize hk : (L.es.take i).filter (fun p => !(p.seq == seq)) = a
      have hka : a.length ≤ L.es.length := by rw [← hk]; exact Nat.le_trans (List.length_filter_le _ _) (by rw [List.length_take]; omega)
      have e := t15b_eq L L.es.length f seq (findP (L.es.take i) seq) a.length (pkG a) (hasP (L.es.take i) seq) i vs
      unfold t15b at e
      rw [e]
      refine ⟨fun hlt => ?_, fun hge => ?_⟩
      · have hlt : i < L.es.length := by simpa using hlt
        have hn := take_next hlt
        simp only [Int.toNat_natCast, Nat.zero_add, hfe]
        refine ⟨by omega, by omega, fun hm => ⟨by omega, by omega, ?_⟩, fun hm => ⟨by omega, by omega, ⟨by omega, by simp [chunks_len], by unfold most; omega⟩, ?_⟩⟩
        · have hm' : (L.es.getD i Pkt.zero).seq = seq := by simpa using hm
          refine .refl ⟨⟨i + 1, by omega, ?_, ?_⟩, ?_⟩
          · refine Eq.trans (b := x15 seq a.length true (IntKind.i64.wrap ((i : Int) + 1))) rfl (x15_eq ?_ ?_ ?_)
            · rw [hn, List.filter_append, hk]; simp [hm', -List.getD_eq_getElem?_getD]
            · rw [hn, hasP_app, hm']; simp
            · rw [wrap_succ (by omega)]
          · rw [hn, List.filter_append, hk, ← hm', findP_new h.sorted hlt]
            simp [H15, Pkt.cells, Pkt.zero, rc]
          · simp only [ctr, List.getD_cons_succ, List.getD_cons_zero, asInt, Option.getD_some, x15]
            rw [wrap_succ (by omega)]
            omega
        · refine Re.row 6 (pkG (a ++ [L.es.getD i Pkt.zero])) rfl (app_pk a _ _ rfl) (Re.ren [some 0, some 1, some 2, some 3, some 6] rfl rfl rfl (.refl ⟨⟨i + 1, by omega, ?_, ?_⟩, ?_⟩))
          · refine Eq.trans (b := x15 seq (a.length + 1) (hasP (L.es.take i) seq) (IntKind.i64.wrap ((i : Int) + 1))) rfl (x15_eq ?_ ?_ ?_)
            · rw [hn, List.filter_append, hk]; simp [hm, -List.getD_eq_getElem?_getD]
            · rw [hn, hasP_app]
              have : (seq == (L.es.getD i Pkt.zero).seq) = false := by simp only [beq_eq_false_iff_ne, ne_eq] at hm ⊢; exact fun e => hm e.symm
              rw [this]; simp
            · rw [wrap_succ (by omega)]
          · rw [hn, List.filter_append, hk, findP_old hm]
            have hm2 : ([L.es.getD i Pkt.zero].filter fun p => !(p.seq == seq)) = [L.es.getD i Pkt.zero] := by rw [List.filter_cons, hm]; rfl
            rw [hm2]
            simp [H15, Pkt.cells, Pkt.zero, rc]
          · simp only [ctr, List.getD_cons_succ, List.getD_cons_zero, asInt, Option.getD_some, x15]
            rw [wrap_succ (by omega)]
            omega
      · have hge : L.es.length ≤ i := by simpa using hge
        have hi' : i = L.es.length := by omega
        intro vs
        rw [hi', List.take_of_length_le (Nat.le_refl _)] at hk ⊢
        have hdel := delP_filter h.sorted seq
        rw [hk] at hdel
        cases hb : hasP L.es seq with
        | true =>
          show (t15kt L L.es.length f seq (findP L.es seq) a.length (pkG a) (L.es.length : Nat) vs).sat _ _
          rw [t15kt_eq]
          have hE : takeE L seq = 0 := by simp only [takeE, h1, hb, if_false, if_true]; rw [if_neg h2]
          refine .toD (Re.ren [some 0, none, some 4] rfl rfl rfl (.refl ⟨_, rfl, ?_, ?_⟩))
          · simp [takeR, takeP, hE, Pkt.cells]
          · have : takeL L seq = ⟨L.room, L.first, L.next, L.last, delP L.es seq⟩ := by simp [takeL, hE]
            rw [this, hdel]; rfl
        | false =>
          show (t15kf L L.es.length f seq (findP L.es seq) a.length (pkG a) (L.es.length : Nat) vs).sat _ _
          rw [t15kf_eq]
          exact key 4 (by simp only [takeE, h1, hb, if_false]; rw [if_neg h2]; rfl) (by decide)
    · refine .toDm [false, false, false, true, false, false, false, true] [false, false, true, true] (Re.nil 4 36 4 (pkG []) (by decide) rfl (.refl ⟨0, Nat.zero_le _, rfl, ?_⟩))
      simp [H15, findP, Pkt.cells, Pkt.zero, rc, toDHs, AB.toD, SV.toD]

theorem x18_eq {att tmo : Int} {k m : Nat} {i : Int} {k' m' : Nat} {i' : Int} (h1 : k = k') (h2 : m = m') (h3 : i = i') : x18 att tmo k m i = x18 att tmo k' m' i' := by rw [h1, h2, h3]

def xhp (L : LSt) (att tmo : Int) : Heap := rhp2 (expL L att tmo) ++ [.row 36 4 (expP L att tmo).length (pkG (expP L att tmo))]

theorem expire18 (L : LSt) (h : L.Ok) (att tmo : Int) (ha : I64 att) (ht : I64 tmo) :
    CallsA Try.prog 18 [.e (.s (.ptr 0 0)), .d (.int .i64 att), .d (.int .i64 tmo)] (rhp L) fun r H' => r = .e (.s (.sl 3 4 0 (expP L att tmo).length 0)) ∧ H' = xhp L att tmo := by
  refine CallsA.re (calls_of fine e18ok 2 18 _ _ ?_)
  have hlen := h.len
  have hroom := h.room
  have hlast := h.last
  generalize hf : (fun j => L.es.getD j Pkt.zero) = f
  have hfe : ∀ j, f j = L.es.getD j Pkt.zero := fun j => by rw [← hf]
  have hG : rhp L = [.cells 44 (rc L 1 L.es.length), .row 36 4 L.es.length (pkF f)] := by rw [← hf]; rfl
  rw [hG]
  show (t18 L L.es.length f att tmo).sat _ _
  rw [t18_eq]
  refine code_loop fine e18ok 1 (live := [0, 1, 2, 7, 8, 9]) (N := 54) kl18
      (fun xs H => ∃ i : Nat, i ≤ L.es.length ∧ xs = x18 att tmo ((L.es.take i).filter fun p => !overX att tmo p).length ((L.es.take i).filter (overX att tmo)).length i ∧
        H = H18 L L.es.length f ((L.es.take i).filter fun p => !overX att tmo p).length (pkG ((L.es.take i).filter fun p => !overX att tmo p)) ((L.es.take i).filter (overX att tmo)).length (pkG ((L.es.take i).filter (overX att tmo))))
      (fun xs _ => L.es.length - ctr 5 xs) ?_ ?_ rfl ?_
  · rintro xs H ⟨i, _, _, rfl⟩; show 2 ≤ 4; omega
  · intro xs H vs hI
    cases hI with | intro i hI =>
    have hi := hI.1
    have hxs := hI.2.1
    have hH := hI.2.2
    clear hI
    rw [hxs, hH]
    generalize hk : (L.es.take i).filter (fun p => !overX att tmo p) = a
    generalize hm : (L.es.take i).filter (overX att tmo) = b
    have hka : a.length ≤ L.es.length := by rw [← hk]; exact Nat.le_trans (List.length_filter_le _ _) (by rw [List.length_take]; omega)
    have hmb : b.length ≤ L.es.length := by rw [← hm]; exact Nat.le_trans (List.length_filter_le _ _) (by rw [List.length_take]; omega)
    have e := t18b_eq L L.es.length f att tmo a.length (pkG a) b.length (pkG b) i vs
    unfold t18b at e
    rw [e]
    refine ⟨fun hlt => ?_, fun hge => ?_⟩
    · have hlt : i < L.es.length := by simpa using hlt
      have hn := take_next hlt
      simp only [Int.toNat_natCast, Nat.zero_add, hfe]
      have hmem : L.es.getD i Pkt.zero ∈ L.es := by rw [List.getD_eq_getElem?_getD, List.getElem?_eq_getElem hlt]; exact List.getElem_mem hlt
      have hsent := h.sent _ hmem
      generalize hq : L.es.getD i Pkt.zero = q at hn hsent
      refine ⟨by omega, by omega, ⟨ha, ht, hsent.1, by omega⟩, fun ho => ⟨by omega, by omega, ⟨by omega, by simp [chunks_len], by unfold most; omega⟩, ?_⟩, fun ho => ⟨by omega, by omega, ⟨by omega, by simp [chunks_len], by unfold most; omega⟩, ?_⟩⟩
      · have ho : overX att tmo q = true := ho
        refine Re.row 5 (pkG (b ++ [q])) rfl (app_pk b _ _ rfl) (Re.ren [some 0, some 1, some 2, some 5] rfl rfl rfl (.refl ⟨⟨i + 1, by omega, ?_, ?_⟩, ?_⟩))
        · refine Eq.trans (b := x18 att tmo a.length (b.length + 1) (IntKind.i64.wrap ((i : Int) + 1))) rfl (x18_eq ?_ ?_ ?_)
          · rw [hn, List.filter_append, hk, List.filter_cons, ho]; simp
          · rw [hn, List.filter_append, hm, List.filter_cons, ho]; simp
          · rw [wrap_succ (by omega)]
        · rw [hn, List.filter_append, List.filter_append, hk, hm, List.filter_cons, List.filter_cons, ho]
          simp [H18, rc]
        · simp only [ctr, List.getD_cons_succ, List.getD_cons_zero, asInt, Option.getD_some, x18]
          rw [wrap_succ (by omega)]
          omega
      · have ho : overX att tmo q = false := ho
        refine Re.row 5 (pkG (a ++ [q])) rfl (app_pk a _ _ rfl) (Re.ren [some 0, some 1, some 5, some 3] rfl rfl rfl (.refl ⟨⟨i + 1, by omega, ?_, ?_⟩, ?_⟩))
        · refine Eq.trans (b := x18 att tmo (a.length + 1) b.length (IntKind.i64.wrap ((i : Int) + 1))) rfl (x18_eq ?_ ?_ ?_)
          · rw [hn, List.filter_append, hk, List.filter_cons, ho]; simp
          · rw [hn, List.filter_append, hm, List.filter_cons, ho]; simp
          · rw [wrap_succ (by omega)]
        · rw [hn, List.filter_append, List.filter_append, hk, hm, List.filter_cons, List.filter_cons, ho]
          simp [H18, rc]
        · simp only [ctr, List.getD_cons_succ, List.getD_cons_zero, asInt, Option.getD_some, x18]
          rw [wrap_succ (by omega)]
          omega
    · have hge : L.es.length ≤ i := by simpa using hge
      have hi' : i = L.es.length := by omega
      intro vs
      rw [hi', List.take_of_length_le (Nat.le_refl _)] at hk hm
      show (t18k L L.es.length f att tmo a.length (pkG a) b.length (pkG b) (i : Nat) vs).sat _ _
      rw [t18k_eq]
      refine .toD (Re.ren [some 0, none, some 2, some 3] rfl rfl rfl (.refl ⟨_, rfl, ?_, ?_⟩))
      · rw [← hm]; rfl
      · rw [← hm, ← hk]; rfl
  · refine .toDm [false, false, false, false, false, true] [] (Re.nil 3 36 4 (pkG []) (by decide) rfl (Re.nil 4 36 4 (pkG []) (by decide) rfl (.refl ⟨0, Nat.zero_le _, rfl, rfl⟩)))

end Go.Proofs.Ythckkoledhjmeaa.Ev

/-
  Summaries of a ledger's functions, the program's and the document's, in whatever heap.
-/
namespace Go.Proofs.Ythckkoledhjmeaa.Ev
open Go

theorem CallsA.pre {P : Program} {f : Nat} {args : List AV} {H : Heap} {Q : AV → Heap → Prop} (h : Re H.length args H fun args2 H2 => CallsA P f args2 H2 Q) : CallsA P f args H Q := by
  intro E w hr ha
  obtain ⟨args2, H2, E2, st, e, ok, hc⟩ := h E w hr ha (Nat.le_refl _)
  have := hc E2 w st.rep ok
  rw [e] at this
  refine this.mono ?_
  rintro e w' ⟨r, H', E', h1, h2, h3, h4, h5⟩
  exact ⟨r, H', E', h1, st.trans h2 st.len, h3, h4, h5⟩

def ledAt (H : Heap) (l : Nat) : Option (LSt × Nat) :=
  match H[l]? with
  | some (.cells 86 [a, b, c, d, .mp lm]) => match a.num, b.num, c.num, d.num, H[lm]? with
    | some (.i64, a), some (.u64, b), some (.u64, c), some (.i64, d), some (.pm es) => some (⟨a, b, c, d, es⟩, lm)
    | _, _, _, _, _ => none
  | _ => none

def putLed (H : Heap) (l lm : Nat) (L : LSt) : Heap := (H.set l (.cells 86 (lc L lm))).set lm (.pm L.es)

def rowPk (n : Nat) (g : Nat → List Value) : List Pkt := (List.range n).map fun j => decPkt (g j)

theorem rowPk_pkG (es : List Pkt) : rowPk es.length (pkG es) = es := by
  apply List.ext_getElem?
  intro i
  simp only [rowPk, List.getElem?_map, pkG_get, dec_vals]
  by_cases h : i < es.length
  · simp [h]
  · simp [h]

theorem rowPk_len (n : Nat) (g : Nat → List Value) : (rowPk n g).length = n := by simp [rowPk]

def refAt (H : Heap) (l : Nat) : Option (LSt × Nat × Prop) :=
  match H[l]? with
  | some (.cells 44 [a, b, c, d, .sl lr 4 0 n 0]) => match a.num, b.num, c.num, d.num, H[lr]? with
    | some (.i64, a), some (.u64, b), some (.u64, c), some (.i64, d), some (.row 36 4 m g) => some (⟨a, b, c, d, rowPk m g⟩, lr, m = n ∧ PkRow m g)
    | _, _, _, _, _ => none
  | _ => none

def putRef (H : Heap) (l lr : Nat) (L : LSt) : Heap := (H.set l (.cells 44 (rc L H.length L.es.length))).set lr .dead ++ [.row 36 4 L.es.length (pkG L.es)]

theorem pos2a (l lm : Nat) : posOf l [some l, some lm] = some 0 := by simp [posOf]
theorem pos2b {l lm : Nat} (h : l ≠ lm) : posOf lm [some l, some lm] = some 1 := by
  have : Nat.beq lm l = false := by rw [Bool.eq_false_iff]; intro e; exact h (Nat.eq_of_beq_eq_true e).symm
  simp [posOf, this]
theorem nodup2 {l lm : Nat} (h : l ≠ lm) : nodupB [some l, some lm] = true := by
  have : Nat.beq l lm = false := by rw [Bool.eq_false_iff]; intro e; exact h (Nat.eq_of_beq_eq_true e)
  simp [nodupB, memB, this]

theorem mp_ren {ms : List (Option Nat)} {l p : Nat} (h : posOf l ms = some p) : (SV.mp l).ren ms = some (.mp p) := by simp only [SV.ren, h]
theorem sl_ren {ms : List (Option Nat)} {l p k i n z : Nat} (h : posOf l ms = some p) : (SV.sl l k i n z).ren ms = some (.sl p k i n z) := by simp only [SV.ren, h]
theorem ptr_ren {ms : List (Option Nat)} {l p o : Nat} (h : posOf l ms = some p) : (AV.e (.s (.ptr l o))).ren ms = some (.e (.s (.ptr p o))) := by simp only [AV.ren, EV.ren, SV.ren, h]

theorem ledAt_facts {H : Heap} {l lm : Nat} {L : LSt} (h : ledAt H l = some (L, lm)) : ∃ a b c d : SV, H[l]? = some (.cells 86 [a, b, c, d, .mp lm]) ∧ a.num = some (.i64, L.room) ∧ b.num = some (.u64, L.first) ∧ c.num = some (.u64, L.next) ∧ d.num = some (.i64, L.last) ∧ H[lm]? = some (.pm L.es) := by
  unfold ledAt at h
  split at h
  · rename_i a b c d lm' hl
    split at h
    · rename_i a' b' c' d' es ha hb hc hd hm
      cases h
      exact ⟨a, b, c, d, hl, ha, hb, hc, hd, hm⟩
    · cases h
  · cases h

theorem led_lift {P : Program} {f : Nat} {rest rest0 : List AV} {H : Heap} {l lm : Nat} {L L' : LSt} {r : AV} {ex : Heap} (hl : ledAt H l = some (L, lm)) (hr : ∀ ms, renFr ms rest = some rest) (h0 : rest.map AV.toD = rest0) (hro : noRo ex = true)
    (h : CallsA P f (.e (.s (.ptr 0 0)) :: rest0) (lhp L) fun r' H' => r' = r ∧ H' = lhp L' ++ ex) :
    CallsA P f (.e (.s (.ptr l 0)) :: rest) H fun r' H' => r' = r.by (back [l, lm] H.length) ∧ H' = putLed H l lm L' ++ ex.map (AB.by (back [l, lm] H.length)) := by
  obtain ⟨a, b, c, d, hc, ha, hb, hcc, hd, hm⟩ := ledAt_facts hl
  have hne : l ≠ lm := by intro e; subst e; rw [hc] at hm; cases hm
  obtain ⟨a1, a2, _⟩ := num_facts ha
  obtain ⟨b1, b2, _⟩ := num_facts hb
  obtain ⟨c1, c2, _⟩ := num_facts hcc
  obtain ⟨d1, d2, _⟩ := num_facts hd
  refine CallsA.lift (args0 := .e (.s (.ptr 0 0)) :: rest) (H0 := [.cells 86 [a, b, c, d, .mp 1], .pm L.es]) [l, lm] ?_ ?_ (nodup2 hne) (Q0 := fun r' H' => r' = r ∧ H' = lhp L' ++ ex) (CallsA.toD ?_) ?_ ?_
  · simp only [List.map_cons, List.map_nil, renFr, ptr_ren (pos2a _ _), hr]
  · simp only [List.map_cons, List.map_nil, renH, hc, hm, AB.ren, renCells, a1, b1, c1, d1, mp_ren (pos2b hne)]
  · subst h0
    have e1 : (AV.e (.s (.ptr 0 0)) :: rest).map AV.toD = .e (.s (.ptr 0 0)) :: rest.map AV.toD := rfl
    have e2 : ([.cells 86 [a, b, c, d, .mp 1], .pm L.es] : Heap).map AB.toD = lhp L := by simp only [List.map_cons, List.map_nil, AB.toD, a2, b2, c2, d2]; rfl
    rw [e1, e2]
    exact h
  · rintro r' H' ⟨_, rfl⟩
    exact noRo_app rfl hro
  · rintro r' H' ⟨rfl, rfl⟩
    refine ⟨rfl, ?_⟩
    simp [backH, backSet, lhp, AB.by, lc, SV.by, back, putLed]

theorem refAt_facts {H : Heap} {l lr : Nat} {L : LSt} {p : Prop} (h : refAt H l = some (L, lr, p)) : ∃ (a b c d : SV) (n m : Nat) (g : Nat → List Value), H[l]? = some (.cells 44 [a, b, c, d, .sl lr 4 0 n 0]) ∧ a.num = some (.i64, L.room) ∧ b.num = some (.u64, L.first) ∧ c.num = some (.u64, L.next) ∧ d.num = some (.i64, L.last) ∧ H[lr]? = some (.row 36 4 m g) ∧ L.es = rowPk m g ∧ p = (m = n ∧ PkRow m g) := by
  unfold refAt at h
  split at h
  · rename_i a b c d lr' n hl
    split at h
    · rename_i a' b' c' d' m g ha hb hc hd hm
      cases h
      exact ⟨a, b, c, d, n, m, g, hl, ha, hb, hc, hd, hm, rfl, rfl⟩
    · cases h
  · cases h

theorem ref_lift {P : Program} {f : Nat} {rest rest0 : List AV} {H : Heap} {l lr : Nat} {L L' : LSt} {p : Prop} {r : AV} {ex : Heap} (hl : refAt H l = some (L, lr, p)) (hp : p) (hr : ∀ ms, renFr ms rest = some rest) (h0 : rest.map AV.toD = rest0) (hro : noRo ex = true)
    (h : CallsA P f (.e (.s (.ptr 0 0)) :: rest0) (rhp L) fun r' H' => r' = r ∧ H' = rhp2 L' ++ ex) :
    CallsA P f (.e (.s (.ptr l 0)) :: rest) H fun r' H' => r' = r.by (back [l, lr] H.length) ∧ H' = putRef H l lr L' ++ ex.map (AB.by (back [l, lr] H.length)) := by
  obtain ⟨a, b, c, d, n, m, g, hc, ha, hb, hcc, hd, hm, hes, rfl⟩ := refAt_facts hl
  obtain ⟨rfl, hpk⟩ := hp
  have hne : l ≠ lr := by intro e; subst e; rw [hc] at hm; cases hm
  obtain ⟨a1, a2, _⟩ := num_facts ha
  obtain ⟨b1, b2, _⟩ := num_facts hb
  obtain ⟨c1, c2, _⟩ := num_facts hcc
  obtain ⟨d1, d2, _⟩ := num_facts hd
  refine CallsA.lift (args0 := .e (.s (.ptr 0 0)) :: rest) (H0 := [.cells 44 [a, b, c, d, .sl 1 4 0 m 0], .row 36 4 m g]) [l, lr] ?_ ?_ (nodup2 hne) (Q0 := fun r' H' => r' = r ∧ H' = rhp2 L' ++ ex) (CallsA.toD (CallsA.pre (Re.row 1 (pkG L.es) rfl ?_ (.refl ?_)))) ?_ ?_
  · simp only [List.map_cons, List.map_nil, renFr, ptr_ren (pos2a _ _), hr]
  · simp only [List.map_cons, List.map_nil, renH, hc, hm, AB.ren, renCells, a1, b1, c1, d1, sl_ren (pos2b hne)]
  · intro j hj
    rw [hpk j hj, hes]
    simp only [pkG_get, rowPk]
    rw [List.getD_eq_getElem?_getD, List.getElem?_map, List.getElem?_range hj]
    rfl
  · subst h0
    have e1 : (AV.e (.s (.ptr 0 0)) :: rest).map AV.toD = .e (.s (.ptr 0 0)) :: rest.map AV.toD := rfl
    have hlen : L.es.length = m := by rw [hes, rowPk_len]
    have e2 : (([.cells 44 [a, b, c, d, .sl 1 4 0 m 0], .row 36 4 m g] : Heap).map AB.toD).set 1 (.row 36 4 m (pkG L.es)) = rhp L := by
      simp only [List.map_cons, List.map_nil, AB.toD, a2, b2, c2, d2, List.set_cons_succ, List.set_cons_zero]
      unfold rhp rc
      rw [hlen]
      rfl
    rw [e1, e2]
    exact h
  · rintro r' H' ⟨_, rfl⟩
    exact noRo_app rfl hro
  · rintro r' H' ⟨rfl, rfl⟩
    refine ⟨rfl, ?_⟩
    simp [backH, backSet, rhp2, AB.by, rc, SV.by, back, putRef]

/-! ### The summaries -/

def s12 (args : List AV) (H : Heap) : T (AV × Heap) :=
  match args with
  | [.e (.s (.ptr l 0)), a, b, c] => match ledAt H l, numA a, numA b, numA c with
    | some (L, lm), some (.i64, mi), some (.i64, size), some (.i64, at') => .need L.Ok (.ret (sendR L mi size at', putLed H l lm (sendL L mi size at')))
    | _, _, _, _ => .fail
  | _ => .fail

def s14 (args : List AV) (H : Heap) : T (AV × Heap) :=
  match args with
  | [.e (.s (.ptr l 0)), a] => match ledAt H l, numA a with
    | some (L, lm), some (.u64, seq) => .ret (takeR L seq, putLed H l lm (takeL L seq))
    | _, _ => .fail
  | [.e (.s (.c (.pointer none))), a] => match numA a with
    | some (.u64, _) => .ret (.tup [.agg Pkt.zero.cells, .s (.d (.int .i64 5))], H)
    | _ => .fail
  | _ => .fail

def s13 (args : List AV) (H : Heap) : T (AV × Heap) :=
  match args with
  | [.e (.s (.ptr l 0)), a, b, c] => match refAt H l, numA a, numA b, numA c with
    | some (L, lr, p), some (.i64, mi), some (.i64, size), some (.i64, at') => .need (p ∧ L.Ok) (.ret (sendR L mi size at', putRef H l lr (sendL L mi size at')))
    | _, _, _, _ => .fail
  | _ => .fail

def s15 (args : List AV) (H : Heap) : T (AV × Heap) :=
  match args with
  | [.e (.s (.ptr l 0)), a] => match refAt H l, numA a with
    | some (L, lr, p), some (.u64, seq) => .need (p ∧ L.Ok) (.ret (takeR L seq, putRef H l lr (takeL L seq)))
    | _, _ => .fail
  | _ => .fail

def s18 (args : List AV) (H : Heap) : T (AV × Heap) :=
  match args with
  | [.e (.s (.ptr l 0)), a, b] => match refAt H l, numA a, numA b with
    | some (L, lr, p), some (.i64, att), some (.i64, tmo) => .need (p ∧ L.Ok ∧ I64 att ∧ I64 tmo) (.ret (.e (.s (.sl (H.length + 1) 4 0 (expP L att tmo).length 0)), putRef H l lr (expL L att tmo) ++ [.row 36 4 (expP L att tmo).length (pkG (expP L att tmo))]))
    | _, _, _ => .fail
  | _ => .fail

theorem s12ok : (Ent.summ s12).ok Try.prog 12 := by
  intro args H Q hq
  unfold s12 at hq
  split at hq
  · rename_i l a b c
    split at hq
    · rename_i L lm mi size at' hl ha hb hc
      obtain ⟨hL, hq⟩ := hq
      obtain ⟨a1, a2⟩ := numA_facts ha
      obtain ⟨b1, b2⟩ := numA_facts hb
      obtain ⟨c1, c2⟩ := numA_facts hc
      refine (led_lift (ex := []) hl ?_ ?_ rfl ((send12 L hL mi size at').mono fun r H' h => ⟨h.1, by rw [h.2, List.append_nil]⟩)).mono ?_
      · intro ms; simp only [renFr, a1, b1, c1]
      · simp only [List.map_cons, List.map_nil, a2, b2, c2]
      · rintro r H' ⟨rfl, rfl⟩
        rw [List.map_nil, List.append_nil]
        exact hq
    · exact hq.elim
  · exact hq.elim

theorem take14n (seq : Int) : CallsA Try.prog 14 [.c (.pointer none), .d (.int .u64 seq)] [] fun r H' => r = .tup [.agg Pkt.zero.cells, .s (.d (.int .i64 5))] ∧ H' = [] := by
  refine CallsA.re (calls_of fine e14ok 1 14 _ _ ?_)
  show (t14n seq).sat _ _
  rw [t14n_eq]
  exact .toD (.refl ⟨_, rfl, rfl, rfl⟩)

theorem s14ok : (Ent.summ s14).ok Try.prog 14 := by
  intro args H Q hq
  unfold s14 at hq
  split at hq
  · rename_i l a
    split at hq
    · rename_i L lm seq hl ha
      obtain ⟨a1, a2⟩ := numA_facts ha
      refine (led_lift (ex := []) hl ?_ ?_ rfl ((take14 L seq).mono fun r H' h => ⟨h.1, by rw [h.2, List.append_nil]⟩)).mono ?_
      · intro ms; simp only [renFr, a1]
      · simp only [List.map_cons, List.map_nil, a2]
      · rintro r H' ⟨rfl, rfl⟩
        rw [List.map_nil, List.append_nil]
        exact hq
    · exact hq.elim
  · rename_i a
    split at hq
    · rename_i seq ha
      obtain ⟨a1, a2⟩ := numA_facts ha
      refine CallsA.lift (args0 := [.c (.pointer none), a]) (H0 := []) [] ?_ rfl rfl (Q0 := fun r H' => r = .tup [.agg Pkt.zero.cells, .s (.d (.int .i64 5))] ∧ H' = []) ?_ ?_ ?_
      · simp only [List.map_nil, renFr, a1]; rfl
      · refine CallsA.pre (Re.toDm [false, true] [] (.refl ?_))
        show CallsA Try.prog 14 [.c (.pointer none), a.toD] [] _
        rw [a2]
        exact take14n seq
      · rintro r H' ⟨_, rfl⟩; rfl
      · rintro r H' ⟨rfl, rfl⟩
        rw [backH_nil]
        exact hq
    · exact hq.elim
  · exact hq.elim

theorem s13ok : (Ent.summ s13).ok Try.prog 13 := by
  intro args H Q hq
  unfold s13 at hq
  split at hq
  · rename_i l a b c
    split at hq
    · rename_i L lr p mi size at' hl ha hb hc
      obtain ⟨⟨hp, hL⟩, hq⟩ := hq
      obtain ⟨a1, a2⟩ := numA_facts ha
      obtain ⟨b1, b2⟩ := numA_facts hb
      obtain ⟨c1, c2⟩ := numA_facts hc
      refine (ref_lift (ex := []) hl hp ?_ ?_ rfl ((send13 L hL mi size at').mono fun r H' h => ⟨h.1, by rw [h.2, List.append_nil]⟩)).mono ?_
      · intro ms; simp only [renFr, a1, b1, c1]
      · simp only [List.map_cons, List.map_nil, a2, b2, c2]
      · rintro r H' ⟨rfl, rfl⟩
        rw [List.map_nil, List.append_nil]
        exact hq
    · exact hq.elim
  · exact hq.elim

theorem s15ok : (Ent.summ s15).ok Try.prog 15 := by
  intro args H Q hq
  unfold s15 at hq
  split at hq
  · rename_i l a
    split at hq
    · rename_i L lr p seq hl ha
      obtain ⟨⟨hp, hL⟩, hq⟩ := hq
      obtain ⟨a1, a2⟩ := numA_facts ha
      refine (ref_lift (ex := []) hl hp ?_ ?_ rfl ((take15 L hL seq).mono fun r H' h => ⟨h.1, by rw [h.2, List.append_nil]⟩)).mono ?_
      · intro ms; simp only [renFr, a1]
      · simp only [List.map_cons, List.map_nil, a2]
      · rintro r H' ⟨rfl, rfl⟩
        rw [List.map_nil, List.append_nil]
        exact hq
    · exact hq.elim
  · exact hq.elim

theorem s18ok : (Ent.summ s18).ok Try.prog 18 := by
  intro args H Q hq
  unfold s18 at hq
  split at hq
  · rename_i l a b
    split at hq
    · rename_i L lr p att tmo hl ha hb
      obtain ⟨⟨hp, hL, h1, h2⟩, hq⟩ := hq
      obtain ⟨a1, a2⟩ := numA_facts ha
      obtain ⟨b1, b2⟩ := numA_facts hb
      refine (ref_lift (ex := [.row 36 4 (expP L att tmo).length (pkG (expP L att tmo))]) hl hp ?_ ?_ rfl ((expire18 L hL att tmo h1 h2).mono fun r H' h => ⟨h.1, h.2⟩)).mono ?_
      · intro ms; simp only [renFr, a1, b1]
      · simp only [List.map_cons, List.map_nil, a2, b2]
      · rintro r H' ⟨rfl, rfl⟩
        exact hq
    · exact hq.elim
  · exact hq.elim

end Go.Proofs.Ythckkoledhjmeaa.Ev

/-
  A summary: two rows of packets are the same.
-/
namespace Go.Proofs.Ythckkoledhjmeaa.Ev
open Go

/-- A row that is only read is told by another function that says the same of its elements. -/
theorem Re.roG {n0 : Nat} {fr : List AV} {H : Heap} {R : List AV → Heap → Prop} (l : Nat) {k n : Nat} {g : Nat → List Value} (g' : Nat → List Value) (hl : H[l]? = some (.ro k n g)) (hg : ∀ j, j < n → g j = g' j)
    (h : Re n0 fr (H.set l (.ro k n g')) R) : Re n0 fr H R := by
  intro E w h1 h2 h3
  have hrow : RoR E w l k n g := h1.rep l _ hl
  have hrow' : RoR E w l k n g' := by
    refine ⟨hrow.pos, hrow.nil, hrow.cap, fun hn => ?_, fun i hi => by rw [← hg i hi]; exact hrow.len i hi, fun i hi => by rw [← hg i hi]; exact hrow.one i hi⟩
    obtain ⟨g1, g3⟩ := hrow.mem hn
    exact ⟨g1, fun i hi j hj => by rw [← hg i hi]; exact g3 i hi j hj⟩
  have get : ∀ {l' : Nat} {C : AB}, (H.set l (.ro k n g'))[l']? = some C → (l' = l ∧ C = .ro k n g') ∨ H[l']? = some C := by
    intro l' C hc
    rcases get_set hc with ⟨_, h8⟩ | ⟨h7, h8, _⟩
    · exact .inr h8
    · exact .inl ⟨h7, h8.symm⟩
  have get2 : ∀ {l' : Nat} {C : AB}, (H.set l (.ro k n g'))[l']? = some C → ∃ C0, H[l']? = some C0 ∧ (∀ b, C0.own b = C.own b) ∧ (∀ k n g, C = .ro k n g → ∃ g0, C0 = .ro k n g0) := by
    intro l' C hc
    rcases get hc with ⟨rfl, rfl⟩ | h8
    · exact ⟨_, hl, fun _ => rfl, fun _ _ _ h => by cases h; exact ⟨g, rfl⟩⟩
    · exact ⟨_, h8, fun _ => rfl, fun _ _ g0 h => ⟨g0, h⟩⟩
  have him : ∀ b, Im E (H.set l (.ro k n g')) b → Im E H b := by
    rintro b ⟨l', C, hc, ho, rfl⟩
    obtain ⟨C0, g1, g2, _⟩ := get2 hc
    exact ⟨l', C0, g1, by rw [g2]; exact ho, rfl⟩
  have hst : Step n0 E H w E (H.set l (.ro k n g')) w := by
    refine ⟨.refl _ _, by simpa using h3, ⟨fun l' C hc => ?_, fun l' C hc => ?_, fun l1 l2 C1 C2 hc1 hc2 ho1 ho2 he => ?_, fun l' k' n' g'' hc hn hi => ?_⟩, rfl, rfl, rfl, Nat.le_refl _, fun _ _ _ => rfl, fun b _ => him b⟩
    · rcases get hc with ⟨rfl, rfl⟩ | h8
      · exact hrow'
      · exact h1.rep l' C h8
    · rw [List.length_set]
      rcases get hc with ⟨rfl, rfl⟩ | h8
      · trivial
      · exact h1.ok l' C h8
    · obtain ⟨D1, g1, g2, _⟩ := get2 hc1
      obtain ⟨D2, k1, k2, _⟩ := get2 hc2
      exact h1.inj l1 l2 D1 D2 g1 k1 (by rw [g2]; exact ho1) (by rw [k2]; exact ho2) he
    · obtain ⟨D, g1, _, g3⟩ := get2 hc
      obtain ⟨g0, rfl⟩ := g3 _ _ _ rfl
      exact h1.ro l' k' n' g0 g1 hn (him _ hi)
  obtain ⟨fr3, H3, E3, k1, k2, k3, k4⟩ := h E w hst.rep (fun x hx => by rw [List.length_set]; exact h2 x hx) hst.len
  exact ⟨fr3, H3, E3, hst.trans k1 (Nat.le_refl _), k2, k3, k4⟩

/-- What is handed back, told in another way. -/
theorem CallsA.out {P : Program} {f : Nat} {args : List AV} {H : Heap} {Q Q2 : AV → Heap → Prop} (h : CallsA P f args H Q) (hq : ∀ r H', Q r H' → ∃ r2 : AV, (∀ E, r2.conc E = r.conc E) ∧ r2.ref ≤ r.ref ∧ (∀ E, r.ok E → r2.ok E) ∧ Q2 r2 H') : CallsA P f args H Q2 := by
  intro E w hr ha
  refine (h E w hr ha).mono ?_
  rintro e w' ⟨r, H', E', rfl, h2, h3, h4, h5⟩
  obtain ⟨r2, g1, g2, g3, g4⟩ := hq r H' h5
  exact ⟨r2, H', E', by rw [g1], h2, Nat.le_trans g2 h3, g3 E' h4, g4⟩

/-- A bool that is handed back is known in each case. -/
theorem CallsA.bool {P : Program} {f : Nat} {args : List AV} {H : Heap} {b : Bool} {Q : AV × Heap → Prop} (h : CallsA P f args H fun r H' => H' = H ∧ r = .d (.bool b)) (hq : (T.ite b (.ret (AV.c (.bool true), H)) (.ret (AV.c (.bool false), H))).sat P Q) : CallsA P f args H fun r H' => Q (r, H') := by
  refine h.out ?_
  rintro r H' ⟨rfl, rfl⟩
  refine ⟨.c (.bool b), fun _ => rfl, Nat.le_refl _, fun _ _ => ok_s.2 trivial, ?_⟩
  cases b
  · exact hq.2 rfl
  · exact hq.1 rfl

def s16 (args : List AV) (H : Heap) : T (AV × Heap) :=
  match args with
  | [.e (.s (.sl l 4 i n _)), .e (.s (.sl l2 4 j m _))] => match rowOf H l, rowOf H l2, Nat.beq l l2 with
    | some (4, N, g), some (4, N2, g2), false => .need ((i + n ≤ N ∧ j + m ≤ N2 ∧ n ≤ most) ∧ PkRow N g ∧ PkRow N2 g2) (.ite (samePk n (fun x => decPkt (g (i + x))) m (fun x => decPkt (g2 (j + x)))) (.ret (.c (.bool true), H)) (.ret (.c (.bool false), H)))
    | _, _, _ => .fail
  | _ => .fail

theorem s16ok : (Ent.summ s16).ok Try.prog 16 := by
  intro args H Q hq
  unfold s16 at hq
  split at hq
  · rename_i l i n z l2 j m z2
    split at hq
    · rename_i N g N2 g2 h1 h2 hb
      obtain ⟨⟨⟨c1, c2, c3⟩, p1, p2⟩, hq⟩ := hq
      have hne : l ≠ l2 := by intro e; subst e; rw [Nat.beq_refl] at hb; cases hb
      unfold most at c3
      refine CallsA.bool ((CallsA.liftR (args0 := [.e (.s (.sl 0 4 i n z)), .e (.s (.sl 1 4 j m z2))]) (Hr := [.ro 4 N g, .ro 4 N2 g2]) [l, l2] ?_ ?_ (Q0 := fun v => v = .bool (samePk n (fun x => decPkt (g (i + x))) m (fun x => decPkt (g2 (j + x))))) (CallsA.pre ?_)).mono ?_) hq
      · simp only [List.map_cons, List.map_nil, renFr, AV.ren, EV.ren, sl_ren (pos2a l l2), sl_ren (pos2b hne)]
      · simp only [roH, h1, h2]
      · refine Re.roG 0 (pkF fun x => decPkt (g x)) rfl p1 (Re.roG 1 (pkF fun x => decPkt (g2 x)) rfl p2 (.refl ?_))
        exact same16 (fun x => decPkt (g x)) (fun x => decPkt (g2 x)) N N2 i n z j m z2 c1 c2 (by omega)
      · rintro r H' ⟨rfl, v, rfl, rfl⟩
        exact ⟨rfl, rfl⟩
    · exact hq.elim
  · exact hq.elim

/-! ### Summaries of what calls ledger.some -/

def s17 (args : List AV) (H : Heap) : T (AV × Heap) :=
  match args with
  | [.e (.s (.ptr l 0)), a, b] => match ledAt H l, numA a, numA b with
    | some (L, lm), some (.i64, att), some (.i64, tmo) => .need (L.Ok ∧ I64 att ∧ I64 tmo) (.ret (.e (.s (.sl H.length 4 0 (expP L att tmo).length 0)), putLed H l lm (expL L att tmo) ++ [.row 36 4 (expP L att tmo).length (pkG (expP L att tmo))]))
    | _, _, _ => .fail
  | _ => .fail

def s19 (args : List AV) (H : Heap) : T (AV × Heap) :=
  match args with
  | [.e (.s (.ptr l 0))] => match ledAt H l with
    | some (L, lm) => .need L.Ok (.ret (.e (.s (.sl H.length 4 0 L.es.length 0)), putLed H l lm L ++ [.row 36 4 L.es.length (pkG L.es)]))
    | _ => .fail
  | _ => .fail

/-- The document's rows hold. -/
def s22 (args : List AV) (H : Heap) : T (AV × Heap) :=
  match args with
  | [] => .ret (.c (.bool true), H)
  | _ => .fail

end Go.Proofs.Ythckkoledhjmeaa.Ev

/-
  The program's ledger: what is open, and what expires; summaries of them.
-/
namespace Go.Proofs.Ythckkoledhjmeaa.Ev
open Go

theorem seq_uniq {es : List Pkt} (hs : es.Pairwise fun a b => a.seq < b.seq) {a b : Pkt} (ha : a ∈ es) (hb : b ∈ es) (h : a.seq = b.seq) : a = b := by
  obtain ⟨i, hi, rfl⟩ := List.mem_iff_getElem.1 ha
  obtain ⟨j, hj, rfl⟩ := List.mem_iff_getElem.1 hb
  rcases Nat.lt_trichotomy i j with hij | rfl | hij
  · have := List.pairwise_iff_getElem.1 hs i j hi hj hij; omega
  · rfl
  · have := List.pairwise_iff_getElem.1 hs j i hj hi hij; omega

theorem perm_sorted {d es : List Pkt} (hp : d.Perm es) (hd : d.Pairwise fun a b => a.seq ≤ b.seq) (hs : es.Pairwise fun a b => a.seq < b.seq) : d = es := by
  refine List.Perm.eq_of_pairwise (le := fun a b => a.seq ≤ b.seq) (fun a b ha hb h1 h2 => ?_) hd (hs.imp fun h => Int.le_of_lt h) hp
  exact seq_uniq hs (hp.subset ha) hb (Int.le_antisymm h1 h2)

theorem overB_X {att tmo : Int} {p : Pkt} (h1 : I64 att) (h2 : I64 tmo) (h3 : 0 ≤ p.sent) (h4 : p.sent ≤ 1099511627776) : overB att tmo p = overX att tmo p := by
  unfold I64 at h1 h2
  unfold overB overX
  rw [IntKind.wrap_i64]
  rw [Bool.eq_iff_iff]
  simp only [Bool.and_eq_true, Bool.or_eq_true, decide_eq_true_eq]
  omega

theorem filter_over (L : LSt) (h : L.Ok) {att tmo : Int} (h1 : I64 att) (h2 : I64 tmo) : L.es.filter (overB att tmo) = expP L att tmo := by
  have := h.last
  exact List.filter_congr fun p hp => by
    have hs := h.sent p hp
    exact overB_X h1 h2 hs.1 (by omega)

def delAll (es l : List Pkt) : List Pkt := l.foldl (fun es p => delP es p.seq) es

theorem delAll_filter : ∀ (l es : List Pkt), es.Pairwise (fun a b => a.seq < b.seq) → delAll es l = es.filter fun p => !(l.any fun q => q.seq == p.seq)
  | [], es, _ => by simp only [delAll, List.foldl_nil, List.any_nil, Bool.not_false]; exact (List.filter_eq_self.2 fun _ _ => rfl).symm
  | q :: l, es, h => by
    have h2 : (delP es q.seq).Pairwise fun a b => a.seq < b.seq := h.sublist List.eraseP_sublist
    have := delAll_filter l (delP es q.seq) h2
    simp only [delAll, List.foldl_cons] at this ⊢
    rw [this, delP_filter h, List.filter_filter]
    refine List.filter_congr fun p _ => ?_
    simp only [List.any_cons, Bool.not_or]
    rw [Bool.and_comm]
    congr 1
    rw [Bool.eq_iff_iff]
    simp only [Bool.not_eq_true', beq_eq_false_iff_ne, ne_eq]
    exact ⟨fun h e => h e.symm, fun h e => h e.symm⟩

theorem delAll_exp (L : LSt) (h : L.Ok) (att tmo : Int) : delAll L.es (expP L att tmo) = (expL L att tmo).es := by
  rw [delAll_filter _ _ h.sorted]
  refine List.filter_congr fun p hp => ?_
  congr 1
  rw [Bool.eq_iff_iff, List.any_eq_true]
  constructor
  · rintro ⟨q, hq, he⟩
    have hq' := List.mem_filter.1 hq
    have := seq_uniq h.sorted hq'.1 hp (by simpa using he)
    subst this
    exact hq'.2
  · intro ho
    exact ⟨p, List.mem_filter.2 ⟨hp, ho⟩, by simp⟩

theorem e17ok : EntsOk Try.prog e17 := ⟨k17, trivial⟩
theorem e19ok : EntsOk Try.prog e19 := ⟨k19, trivial⟩

theorem most_ok (L : LSt) (h : L.Ok) : L.es.length ≤ most := by
  have := h.len; have := h.room; unfold most; omega

set_option maxRecDepth 100000 in
theorem open19 (L : LSt) (h : L.Ok) :
    CallsA Try.prog 19 [.e (.s (.ptr 0 0))] (lhp L) fun r H' => r = .e (.s (.sl 2 4 0 L.es.length 0)) ∧ H' = lhp L ++ [.row 36 4 L.es.length (pkG L.es)] := by
  refine calls_of fine e19ok 2 19 _ _ ?_
  show (t19 L).sat _ _
  rw [t19_eq]
  refine CallsA.mono (some41 (some41_open L) (most_ok L h)) ?_
  intro r H' hx
  cases hx with | intro d hx =>
  have hp := hx.1
  have hs := hx.2.1
  have hr := hx.2.2.1
  have hH := hx.2.2.2
  clear hx
  have hd : d = L.es := perm_sorted (by rwa [List.filter_eq_self.2 fun _ _ => rfl] at hp) hs h.sorted
  rw [hr, hH, hd]
  show (t19c L L.es.length fun j => L.es.getD j Pkt.zero).sat _ _
  rw [t19c_eq]
  exact ⟨rfl, rfl⟩

def ehp (L : LSt) (att tmo : Int) : Heap := lhp (expL L att tmo) ++ [.row 36 4 (expP L att tmo).length (pkG (expP L att tmo))]

set_option maxRecDepth 100000 in
theorem expire17 (L : LSt) (h : L.Ok) (att tmo : Int) (ha : I64 att) (ht : I64 tmo) :
    CallsA Try.prog 17 [.e (.s (.ptr 0 0)), .d (.int .i64 att), .d (.int .i64 tmo)] (lhp L) fun r H' => r = .e (.s (.sl 2 4 0 (expP L att tmo).length 0)) ∧ H' = ehp L att tmo := by
  refine CallsA.re (calls_of fine e17ok 2 17 _ _ ?_)
  show (t17 L att tmo).sat _ _
  rw [t17_eq]
  refine CallsA.mono (some41 (some41_expire L att tmo) (most_ok L h)) ?_
  intro r H' hx
  cases hx with | intro d hx =>
  have hp := hx.1
  have hs := hx.2.1
  have hr := hx.2.2.1
  have hH := hx.2.2.2
  clear hx
  rw [filter_over L h ha ht] at hp
  have hd : d = expP L att tmo := perm_sorted hp hs (h.sorted.sublist List.filter_sublist)
  rw [hr, hH, hd]
  clear hr hH hd hp hs d
  generalize hd : expP L att tmo = d
  have hdl : d.length ≤ most := by rw [← hd]; exact Nat.le_trans (List.length_filter_le _ _) (most_ok L h)
  generalize hf : (fun j => d.getD j Pkt.zero) = f
  have hfe : ∀ j, f j = d.getD j Pkt.zero := fun j => by rw [← hf]
  have hG : pkG d = pkF f := by rw [← hf]; rfl
  have hend : ([.cells 86 (lc L 1), .pm (delAll L.es d), .row 36 4 d.length (pkF f)] : Heap) = ehp L att tmo := by
    rw [← hG, ← hd, delAll_exp L h]; rfl
  rw [hG]
  unfold most at hdl
  show (t17c L att tmo d.length f).sat _ _
  rw [t17c_eq]
  refine code_loop fine e17ok 1 (live := [0, 7, 15, 16, 17]) (N := 29) kl17
      (fun xs H => ∃ i : Nat, i ≤ d.length ∧ xs = x17 d.length i ∧ H = H17 L (delAll L.es (d.take i)) att tmo d.length f)
      (fun xs _ => d.length - ctr 4 xs) ?_ ?_ rfl ?_
  · rintro xs H ⟨i, _, _, rfl⟩; show 2 ≤ 5; omega
  · intro xs H vs hI
    cases hI with | intro i hI =>
    have hi := hI.1
    have hxs := hI.2.1
    have hH := hI.2.2
    clear hI
    rw [hxs, hH]
    have e := t17b_eq L (delAll L.es (d.take i)) att tmo d.length f i vs
    unfold t17b at e
    rw [e]
    refine ⟨fun hlt => ?_, fun hge => ?_⟩
    · have hlt : i < d.length := by simpa using hlt
      have hn := take_next hlt
      simp only [Int.toNat_natCast, Nat.zero_add, hfe]
      refine ⟨by omega, by omega, Re.ren [some 0, some 1, some 2, some 3, some 4] rfl rfl rfl (.refl ⟨⟨i + 1, by omega, ?_, ?_⟩, ?_⟩)⟩
      · rw [wrap_succ (by omega)]; rfl
      · rw [hn]
        simp [H17, delAll, lc]
      · simp only [ctr, List.getD_cons_succ, List.getD_cons_zero, asInt, Option.getD_some, x17]
        rw [wrap_succ (by omega)]
        omega
    · have hge : d.length ≤ i := by simpa using hge
      have hi' : i = d.length := by omega
      intro vs
      rw [hi', List.take_of_length_le (Nat.le_refl _)]
      show (t17k L (delAll L.es d) att tmo d.length f (d.length : Nat) vs).sat _ _
      rw [t17k_eq]
      refine Re.ren [some 0, some 1, some 4] rfl rfl rfl (.refl ⟨_, rfl, rfl, hend⟩)
  · exact .toDm [false, false, false, false, true] [] (.refl ⟨0, Nat.zero_le _, rfl, rfl⟩)

theorem s19ok : (Ent.summ s19).ok Try.prog 19 := by
  intro args H Q hq
  unfold s19 at hq
  split at hq
  · rename_i l
    split at hq
    · rename_i L lm hl
      obtain ⟨hL, hq⟩ := hq
      refine (led_lift (ex := [.row 36 4 L.es.length (pkG L.es)]) hl ?_ ?_ rfl (open19 L hL)).mono ?_
      · intro ms; rfl
      · rfl
      · rintro r H' ⟨rfl, rfl⟩
        exact hq
    · exact hq.elim
  · exact hq.elim

theorem s17ok : (Ent.summ s17).ok Try.prog 17 := by
  intro args H Q hq
  unfold s17 at hq
  split at hq
  · rename_i l a b
    split at hq
    · rename_i L lm att tmo hl ha hb
      obtain ⟨⟨hL, h1, h2⟩, hq⟩ := hq
      obtain ⟨a1, a2⟩ := numA_facts ha
      obtain ⟨b1, b2⟩ := numA_facts hb
      refine (led_lift (ex := [.row 36 4 (expP L att tmo).length (pkG (expP L att tmo))]) hl ?_ ?_ rfl ((expire17 L hL att tmo h1 h2).mono fun r H' h => ⟨h.1, h.2⟩)).mono ?_
      · intro ms; simp only [renFr, a1, b1]
      · simp only [List.map_cons, List.map_nil, a2, b2]
      · rintro r H' ⟨rfl, rfl⟩
        exact hq
    · exact hq.elim
  · exact hq.elim

end Go.Proofs.Ythckkoledhjmeaa.Ev

/-
  A ledger begins: the program's and the document's; the abstract evaluator's trees of the document's rows.
-/
namespace Go.Proofs.Ythckkoledhjmeaa.Ev
open Go

def e10 : List (Nat × Ent) := [(10, .body oN 0)]
def e11 : List (Nat × Ent) := [(11, .body oN 0)]

noncomputable def t10 (room first : Int) : T (AV × Heap) := callT Try.prog (entL e10) 1 10 [.d (.int .i64 room), .d (.int .u64 first)] [] fun r H' => .ret (r, H')

theorem t10_eq (room first : Int) : t10 room first =
    T.ite (decide (room < 1)) (T.ret (AV.tup [EV.s (SV.c (Value.pointer none)), EV.s (SV.c (Value.int IntKind.i64 1))], []))
      (T.ite (decide (room > 4096))
        (T.ret (AV.tup [EV.s (SV.c (Value.pointer none)), EV.s (SV.c (Value.int IntKind.i64 1))], []))
        (T.ret
          (AV.tup [EV.s (SV.ptr 1 0), EV.s (SV.c (Value.int IntKind.i64 0))],
            [AB.pm [],
              AB.cells 86
                [SV.d (Value.int IntKind.i64 room), SV.d (Value.int IntKind.u64 first), SV.d (Value.int IntKind.u64 first),
                  SV.c (Value.int IntKind.i64 0), SV.mp 0]]))) := by kernel_rfl


noncomputable def t11 (room first : Int) : T (AV × Heap) := callT Try.prog (entL e11) 1 11 [.d (.int .i64 room), .d (.int .u64 first)] [] fun r H' => .ret (r, H')

theorem t11_eq (room first : Int) : t11 room first =
    T.ite (decide (room < 1)) (T.ret (AV.tup [EV.s (SV.c (Value.pointer none)), EV.s (SV.c (Value.int IntKind.i64 1))], []))
      (T.ite (decide (room > 4096))
        (T.ret (AV.tup [EV.s (SV.c (Value.pointer none)), EV.s (SV.c (Value.int IntKind.i64 1))], []))
        (T.ret
          (AV.tup [EV.s (SV.ptr 0 0), EV.s (SV.c (Value.int IntKind.i64 0))],
            [AB.cells 44
                [SV.d (Value.int IntKind.i64 room), SV.d (Value.int IntKind.u64 first), SV.d (Value.int IntKind.u64 first),
                  SV.c (Value.int IntKind.i64 0), SV.c (Value.slice none 0 0)]]))) := by kernel_rfl


end Go.Proofs.Ythckkoledhjmeaa.Ev

/-
  A ledger begins: summaries.
-/
namespace Go.Proofs.Ythckkoledhjmeaa.Ev
open Go

theorem e10ok : EntsOk Try.prog e10 := ⟨k10, trivial⟩
theorem e11ok : EntsOk Try.prog e11 := ⟨k11, trivial⟩

def newB (room : Int) : Bool := decide (room < 1) || decide (room > 4096)

theorem newB_false {room : Int} (h : newB room = false) : 1 ≤ room ∧ room ≤ 4096 := by
  simp only [newB, Bool.or_eq_false_iff, decide_eq_false_iff_not] at h; omega

/-- What New hands back, told by its two ways. -/
def newQ (room : Int) (x : AV × Heap) (r : AV) (H' : Heap) : Prop :=
  (newB room = true → r = .tup [.s (.c (.pointer none)), .s (.c (.int .i64 1))] ∧ H' = []) ∧ (newB room = false → (r, H') = x)

theorem new10 (room first : Int) : CallsA Try.prog 10 [.d (.int .i64 room), .d (.int .u64 first)] [] (newQ room (.tup [.s (.ptr 0 0), .s (.c (.int .i64 0))], [.cells 86 (lc (newL room first) 1), .pm []])) := by
  refine CallsA.re (calls_of fine e10ok 1 10 _ _ ?_)
  show (t10 room first).sat _ _
  rw [t10_eq]
  refine ⟨fun h => .refl ⟨_, rfl, fun _ => ⟨rfl, rfl⟩, fun h1 => ?_⟩, fun h => ⟨fun h2 => .refl ⟨_, rfl, fun _ => ⟨rfl, rfl⟩, fun h1 => ?_⟩, fun h2 => ?_⟩⟩
  · simp [newB, h] at h1
  · simp [newB, h2] at h1
  · refine .toDm [] [false, true] (Re.ren [some 1, some 0] rfl rfl rfl (.refl ⟨_, rfl, fun h1 => ?_, fun _ => rfl⟩))
    simp only [newB, h, h2] at h1; cases h1

theorem new11 (room first : Int) : CallsA Try.prog 11 [.d (.int .i64 room), .d (.int .u64 first)] [] (newQ room (.tup [.s (.ptr 0 0), .s (.c (.int .i64 0))], [.cells 44 (rc (newL room first) 1 0), .row 36 4 0 (pkG [])])) := by
  refine CallsA.re (calls_of fine e11ok 1 11 _ _ ?_)
  show (t11 room first).sat _ _
  rw [t11_eq]
  refine ⟨fun h => .refl ⟨_, rfl, fun _ => ⟨rfl, rfl⟩, fun h1 => ?_⟩, fun h => ⟨fun h2 => .refl ⟨_, rfl, fun _ => ⟨rfl, rfl⟩, fun h1 => ?_⟩, fun h2 => ?_⟩⟩
  · simp [newB, h] at h1
  · simp [newB, h2] at h1
  · refine Re.nilCell 0 4 36 4 (pkG []) (by decide) rfl rfl (.toDm [] [true] (.refl ⟨_, rfl, fun h1 => ?_, fun _ => rfl⟩))
    simp only [newB, h, h2] at h1; cases h1

def s10 (args : List AV) (H : Heap) : T (AV × Heap) :=
  match args with
  | [a, b] => match numA a, numA b with
    | some (.i64, room), some (.u64, first) => .ite (newB room) (.ret (.tup [.s (.c (.pointer none)), .s (.c (.int .i64 1))], H)) (.ret (.tup [.s (.ptr H.length 0), .s (.c (.int .i64 0))], H ++ [.cells 86 (lc (newL room first) (H.length + 1)), .pm []]))
    | _, _ => .fail
  | _ => .fail

def s11 (args : List AV) (H : Heap) : T (AV × Heap) :=
  match args with
  | [a, b] => match numA a, numA b with
    | some (.i64, room), some (.u64, first) => .ite (newB room) (.ret (.tup [.s (.c (.pointer none)), .s (.c (.int .i64 1))], H)) (.ret (.tup [.s (.ptr H.length 0), .s (.c (.int .i64 0))], H ++ [.cells 44 (rc (newL room first) (H.length + 1) 0), .row 36 4 0 (pkG [])]))
    | _, _ => .fail
  | _ => .fail

theorem s10ok : (Ent.summ s10).ok Try.prog 10 := by
  intro args H Q hq
  unfold s10 at hq
  split at hq
  · rename_i a b
    split at hq
    · rename_i room first ha hb
      obtain ⟨a1, a2⟩ := numA_facts ha
      obtain ⟨b1, b2⟩ := numA_facts hb
      refine CallsA.lift (args0 := [a, b]) (H0 := []) [] ?_ rfl rfl (Q0 := newQ room (.tup [.s (.ptr 0 0), .s (.c (.int .i64 0))], [.cells 86 (lc (newL room first) 1), .pm []])) (CallsA.toD ?_) ?_ ?_
      · simp only [List.map_nil, renFr, a1, b1]
      · simp only [List.map_cons, List.map_nil, a2, b2]
        exact new10 room first
      · intro r H' h
        cases hn : newB room with
        | true => rw [(h.1 hn).2]; rfl
        | false => have := h.2 hn; simp only [Prod.mk.injEq] at this; rw [this.2]; rfl
      · intro r H' h
        cases hn : newB room with
        | true => rw [(h.1 hn).1, (h.1 hn).2, backH_nil]; exact hq.1 hn
        | false =>
          have := h.2 hn
          simp only [Prod.mk.injEq] at this
          rw [this.1, this.2]
          have h3 := hq.2 hn
          simpa [T.sat, AV.by, EV.by, SV.by, back, backH, backSet, AB.by, lc] using h3
    · exact hq.elim
  · exact hq.elim

theorem s11ok : (Ent.summ s11).ok Try.prog 11 := by
  intro args H Q hq
  unfold s11 at hq
  split at hq
  · rename_i a b
    split at hq
    · rename_i room first ha hb
      obtain ⟨a1, a2⟩ := numA_facts ha
      obtain ⟨b1, b2⟩ := numA_facts hb
      refine CallsA.lift (args0 := [a, b]) (H0 := []) [] ?_ rfl rfl (Q0 := newQ room (.tup [.s (.ptr 0 0), .s (.c (.int .i64 0))], [.cells 44 (rc (newL room first) 1 0), .row 36 4 0 (pkG [])])) (CallsA.toD ?_) ?_ ?_
      · simp only [List.map_nil, renFr, a1, b1]
      · simp only [List.map_cons, List.map_nil, a2, b2]
        exact new11 room first
      · intro r H' h
        cases hn : newB room with
        | true => rw [(h.1 hn).2]; rfl
        | false => have := h.2 hn; simp only [Prod.mk.injEq] at this; rw [this.2]; rfl
      · intro r H' h
        cases hn : newB room with
        | true => rw [(h.1 hn).1, (h.1 hn).2, backH_nil]; exact hq.1 hn
        | false =>
          have := h.2 hn
          simp only [Prod.mk.injEq] at this
          rw [this.1, this.2]
          have h3 := hq.2 hn
          simpa [T.sat, AV.by, EV.by, SV.by, back, backH, backSet, AB.by, rc] using h3
    · exact hq.elim
  · exact hq.elim

end Go.Proofs.Ythckkoledhjmeaa.Ev

/-
  The abstract evaluator's trees: the document's rows for a ledger.
-/
namespace Go.Proofs.Ythckkoledhjmeaa.Ev
open Go

def e22 : List (Nat × Ent) := [(22, .body oN 0), (10, .summ s10), (12, .summ s12), (14, .summ s14), (16, .summ s16), (17, .summ s17), (20, .body oN 0), (21, .body o21 0)]

noncomputable def t22  : T (AV × Heap) := callT Try.prog (entL e22) 2 22 [] [] fun r H' => .ret (r, H')

theorem t22_eq  : t22  =
    T.ite false T.fail
      (T.need
        { room := (newL 2 7).room, first := (newL 2 7).first, next := (newL 2 7).next, last := (newL 2 7).last, es := [] :
            LSt }.Ok
        (T.need
          (sendL
              { room := (newL 2 7).room, first := (newL 2 7).first, next := (newL 2 7).next, last := (newL 2 7).last,
                es := [] : LSt }
              0 100 5).Ok
          (T.need
            { room := 2, first := 7, next := 9, last := 6,
                es :=
                  [{ seq := 7, mi := 0, size := 100, sent := 5 : Pkt },
                    { seq := 8, mi := 0, size := 200, sent := 6 : Pkt }] :
                LSt }.Ok
            (T.need
              { room := 2, first := 7, next := 9, last := 6, es := [{ seq := 7, mi := 0, size := 100, sent := 5 : Pkt }] :
                  LSt }.Ok
              (T.need
                ({ room := 2, first := 7, next := 10, last := 6,
                      es :=
                        [{ seq := 7, mi := 0, size := 100, sent := 5 : Pkt },
                          { seq := 9, mi := 1, size := 1, sent := 6 : Pkt }] :
                      LSt }.Ok ∧
                  I64 15 ∧ I64 10)
                (T.ite false (T.ret (AV.e (EV.s (SV.c (Value.bool false))), []))
                  (T.ite false (T.ret (AV.e (EV.s (SV.c (Value.bool false))), []))
                    (T.ite false (T.ret (AV.e (EV.s (SV.c (Value.bool false))), []))
                      (T.ite false (T.ret (AV.e (EV.s (SV.c (Value.bool false))), []))
                        (T.ite false (T.ret (AV.e (EV.s (SV.c (Value.bool false))), []))
                          (T.ite false (T.ret (AV.e (EV.s (SV.c (Value.bool false))), []))
                            (T.ite false (T.ret (AV.e (EV.s (SV.c (Value.bool false))), []))
                              (T.ite false (T.ret (AV.e (EV.s (SV.c (Value.bool false))), []))
                                (T.ite false (T.ret (AV.e (EV.s (SV.c (Value.bool false))), []))
                                  (T.ite false (T.ret (AV.e (EV.s (SV.c (Value.bool false))), []))
                                    (T.ite false (T.ret (AV.e (EV.s (SV.c (Value.bool false))), []))
                                      (T.need
                                        ((1 ≤ 1 ∧
                                            0 + 1 ≤
                                                (chunksOf (3 + 1) 1
                                                    [Value.int IntKind.u64 7, Value.int IntKind.i64 0,
                                                      Value.int IntKind.i64 100, Value.int IntKind.i64 5]).length ∧
                                              1 ≤ 1000000) ∧
                                          PkRow 1
                                              (pkG
                                                (expP
                                                  (sendL
                                                    (takeL
                                                      (takeL
                                                        (takeL
                                                          (sendL
                                                            (sendL
                                                              (sendL
                                                                { room := (newL 2 7).room, first := (newL 2 7).first,
                                                                  next := (newL 2 7).next, last := (newL 2 7).last,
                                                                  es := [] : LSt }
                                                                0 100 5)
                                                              0 200 6)
                                                            0 1 6)
                                                          8)
                                                        8)
                                                      9)
                                                    1 1 6)
                                                  15 10)) ∧
                                            PkRow
                                              (chunksOf (3 + 1) 1
                                                  [Value.int IntKind.u64 7, Value.int IntKind.i64 0,
                                                    Value.int IntKind.i64 100, Value.int IntKind.i64 5]).length
                                              fun j =>
                                              (chunksOf (3 + 1) 1
                                                    [Value.int IntKind.u64 7, Value.int IntKind.i64 0,
                                                      Value.int IntKind.i64 100, Value.int IntKind.i64 5]).getD
                                                j [])
                                        (T.ite true
                                          (T.ite true
                                            (T.ite true
                                              (T.ite true (T.ret (AV.e (EV.s (SV.c (Value.bool true))), []))
                                                (T.ret (AV.e (EV.s (SV.c (Value.bool false))), [])))
                                              (T.ret (AV.e (EV.s (SV.c (Value.bool false))), [])))
                                            (T.ret (AV.e (EV.s (SV.c (Value.bool false))), [])))
                                          (T.ret (AV.e (EV.s (SV.c (Value.bool false))), [])))))))))))))))))))) := by kernel_rfl


end Go.Proofs.Ythckkoledhjmeaa.Ev

/-
  The document's rows for a ledger hold.
-/
namespace Go.Proofs.Ythckkoledhjmeaa.Ev
open Go

theorem e22ok : EntsOk Try.prog e22 := ⟨k22, s10ok, s12ok, s14ok, s16ok, s17ok, k20, k21, trivial⟩

theorem entered22 : CallsA Try.prog 22 [] [] fun r H' => r = .c (.bool true) ∧ H' = [] := by
  refine calls_of fine e22ok 2 22 _ _ ?_
  show t22.sat _ _
  rw [t22_eq]
  have h1 : (newL 2 7).Ok := okL_new (by decide) (by decide) (by decide) (by decide)
  simp only [T.sat, true_implies, false_implies, implies_true, true_and, and_true, Bool.true_eq_false, Bool.false_eq_true]
  refine ⟨h1, okL_send h1 _ _ _, ?_, ?_, ⟨?_, ?_, ?_⟩, ⟨?_, ?_, ?_⟩⟩
  · constructor <;> simp
  · constructor <;> simp
  · constructor <;> simp
  · simp [I64]
  · simp [I64]
  · decide
  · exact pkRow_G _ _
  · intro j hj
    have : j = 0 := by simp [chunksOf] at hj; exact hj
    subst this
    rfl

theorem s22ok : (Ent.summ s22).ok Try.prog 22 := by
  intro args H Q hq
  unfold s22 at hq
  split at hq
  · exact CallsA.pure (args0 := []) rfl rfl (fun _ => rfl) entered22 hq
  · exact hq.elim

end Go.Proofs.Ythckkoledhjmeaa.Ev
