/-
  slices.SortFunc at packets, by their numbers.
-/
import Derived.Shelf.SlSortCmp.NoneTotal
import Derived.Test.YthckkoledhjmeaaSL
import Derived.Test.YthckkoledhjmeaaVE
namespace Go.Proofs.Ythckkoledhjmeaa.Ev
open Go Go.Proofs Go.Shelf Go.RowKit Go.Lib Go.Sort

def cmpI (x y : Int) : Int := if x < y then -1 else if x > y then 1 else 0
def cmpPk (x y : Pkt) : Int := cmpI x.seq y.seq

set_option maxHeartbeats 1000000 in
theorem compare69 (x y : Int) (W : World) : Calls Try.prog 69 #[.int .u64 x, .int .u64 y] W fun e w' => e = .returned (.int .i64 (cmpI x y)) ∧ w' = W := by
  go_enter Try.func69, Try.ntmps69
  go_wp2
  all_goals
    go_ret
    refine ⟨?_, rfl⟩
    unfold cmpI
    split
    all_goals first | rfl | (exfalso; omega) | (split <;> first | rfl | (exfalso; omega))

set_option maxHeartbeats 1000000 in
theorem closure68 (x y : Pkt) (W : World) : Calls Try.prog 68 #[.agg x.vals.toArray, .agg y.vals.toArray] W fun e w' => e = .returned (.int .i64 (cmpPk x y)) ∧ ∃ q os', w' = grow (W.drewN q) os' := by
  obtain ⟨x1, x2, x3, x4⟩ := x
  obtain ⟨y1, y2, y3, y4⟩ := y
  have hcon := fun W' => compare69 x1 y1 W'
  unfold cmpPk Pkt.vals
  dsimp only
  generalize cmpI x1 y1 = r at hcon ⊢
  go_enter Try.func68, Try.ntmps68
  go_wp2_with (go_at_call 69; refine (hcon _).mono ?_; rintro e w' ⟨rfl, rfl⟩)
  go_ret
  exact ⟨rfl, 0, _, by rw [alloc_eq_grow, alloc_eq_grow, grow_grow]; rfl⟩

instance : Inhabited Pkt := ⟨Pkt.zero⟩

theorem cmpLays68 (blk off size : Nat) (w : World) : CmpLays Try.prog 68 #[] Pkt.vals 4 cmpPk blk off size w := fun _ _ _ _ x y => closure68 x y _

theorem ltPk (x y : Pkt) : ltOf cmpPk x y = decide (x.seq < y.seq) := by
  unfold ltOf cmpPk cmpI
  split
  · rename_i h; simp [h]
  · split
    · rename_i h1 h2; simp [h1]
    · rename_i h1 h2; simp [h1]

theorem swoPk : SWO (ltOf cmpPk) where
  irrefl x := by simp [ltPk]
  trans x y z h1 h2 := by simp only [ltPk, decide_eq_true_eq] at *; omega
  ntrans x y z h1 h2 := by simp only [ltPk, decide_eq_false_iff_not] at *; omega

theorem getBang (d : Array Pkt) (i : Nat) : d[i]! = d.toList.getD i Pkt.zero := by
  rw [List.getD_eq_getElem?_getD, Array.getElem?_toList]
  by_cases h : i < d.size
  · simp [h]
  · simp [h]; rfl

theorem flat_get (es : Array Pkt) (t : Nat) (h : t < es.size * 4) : (flatK Pkt.vals 4 es)[t]! = (pkG es.toList (t / 4))[t % 4]! := by
  rw [get_flatK _ _ _ _ h, getBang]
  rfl

theorem vals_len (p : Pkt) : p.vals.length = 4 := rfl
theorem vals_one (p : Pkt) : ∀ v ∈ p.vals, v.oneCell' = true := by
  intro v hv
  simp only [Pkt.vals, List.mem_cons, List.not_mem_nil, or_false] at hv
  rcases hv with rfl | rfl | rfl | rfl <;> rfl

/-- A row of packets that is not nil holds what the sort asks. -/
theorem holds_row {E : Env} {w : World} {l : Nat} {es : List Pkt} (h : RowR E w l 36 4 es.length (pkG es)) (hn : E.nil l = false) : HoldsK Pkt.vals 4 w (E.blk l) (E.base l) es.toArray := by
  obtain ⟨vs, hv, hs, hm⟩ := h.mem hn
  intro t ht
  have ht' : t < es.length * 4 := by simpa using ht
  have h1 : t / 4 < es.length := by omega
  have h2 : t % 4 < 4 := by omega
  have := hm (t / 4) h1 (t % 4) h2
  refine ⟨?_, by simp [World.frozen?, hv]⟩
  have e1 : E.base l + t / 4 * 4 + t % 4 = E.base l + t := by omega
  rw [e1] at this
  simp only [World.cell?, hv, this, id]
  rw [flat_get es.toArray t (by simpa using ht')]
  have hlen : (pkG es (t / 4)).length = 4 := rfl
  simp only [List.getElem?_eq_getElem (show t % 4 < (pkG es (t / 4)).length by omega)]
  rw [getElem!_pos _ _ (by simpa using (show t % 4 < (pkG es (t / 4)).length by omega))]
  simp

/-- More blocks behind those that there are. -/
theorem step_more {n0 : Nat} {E0 E : Env} {H0 H : Heap} {w0 w w' : World} (h : Step n0 E0 H0 w0 E H w) (h1 : w'.os = w.os) (h2 : w'.tape = w.tape) (h3 : w'.output = w.output) (hs : w.heap.size ≤ w'.heap.size) (hb : ∀ b, b < w.heap.size → w'.heap[b]? = w.heap[b]?) : Step n0 E0 H0 w0 E H w' := by
  refine ⟨h.agree, h.len, ⟨fun l B hl => (h.rep.rep l B hl).kept fun hc => ?_, h.rep.ok, h.rep.inj, h.rep.ro⟩, h1.trans h.os, h2.trans h.tape, h3.trans h.output, Nat.le_trans h.size hs, fun b hb' hn => ?_, h.im⟩
  · rcases hc with hc | ⟨⟨k, m, g, rfl⟩, hn⟩
    · exact hb _ ((h.rep.rep l B hl).lt hc)
    · exact hb _ (ro_lt (h.rep.rep l _ hl) hn)
  · rw [hb b (Nat.lt_of_lt_of_le hb' h.size)]; exact h.frame b hb' hn

theorem sort_step {E : Env} {H : Heap} {w : World} (h : HRep E H w) {l : Nat} {es : List Pkt} (hl : H[l]? = some (.row 36 4 es.length (pkG es))) (hn : E.nil l = false) (d : Array Pkt) (hd : d.size = es.length) (m : Nat) (os : Array Obj) :
    Step H.length E H w E (H.set l (.row 36 4 es.length (pkG d.toList))) (sortWorldK Pkt.vals 4 w (E.blk l) (E.base l) m d os) := by
  have hrow : RowR E w l 36 4 es.length (pkG es) := h.rep l _ hl
  obtain ⟨vs, hv, hs, hm⟩ := hrow.mem hn
  have hcap := hrow.cap hn
  have hblk : E.blk l < w.heap.size := (Array.getElem?_eq_some_iff.1 hv).1
  have hput : ∀ b, (putRowK Pkt.vals 4 (Sort.ahead w m) (E.blk l) (E.base l) d).heap[b]? = if E.blk l = b then some (.cells (putCells id (E.base l) (flatK Pkt.vals 4 d) vs) 36 (0, 0)) else w.heap[b]? := by
    intro b
    simp only [putRowK, putRow, mapBlock, Sort.ahead, Array.getElem?_modify]
    by_cases hb : E.blk l = b
    · subst hb; simp [hv, onCells]
    · simp [hb]
  have hsz : (putRowK Pkt.vals 4 (Sort.ahead w m) (E.blk l) (E.base l) d).heap.size = w.heap.size := by simp [putRowK, putRow, mapBlock, Sort.ahead]
  have h1 : Step H.length E H w E (H.set l (.row 36 4 es.length (pkG d.toList))) (putRowK Pkt.vals 4 (Sort.ahead w m) (E.blk l) (E.base l) d) := by
    refine step_set h hl (by simp [AB.own, hn]) ?_ trivial (fun _ _ _ => by simp) (fun b hb => by rw [hput, if_neg (Ne.symm hb)]) hsz rfl rfl rfl
    refine RowR.mk hrow.pos hrow.nil hrow.cap (fun _ => ⟨_, by rw [hput, if_pos rfl], fun h0 => by simp [putCells]; exact hs h0, fun i hi j hj => ?_⟩) (fun i hi => rfl) (fun i hi => vals_one _)
    have hcapk : (i + 1) * 4 ≤ E.cap l * 4 := by omega
    have hs' := hs (by omega)
    have hlt : E.base l + i * 4 + j < vs.size := by omega
    have hF : (flatK Pkt.vals 4 d).size = es.length * 4 := by simp [hd]
    simp only [putCells, Array.getElem?_mapIdx, Array.getElem?_eq_getElem hlt, Option.map_some, hF]
    rw [if_pos ⟨by omega, by omega⟩]
    have e1 : E.base l + i * 4 + j - E.base l = i * 4 + j := by omega
    rw [e1]
    simp only [id]
    rw [flat_get d (i * 4 + j) (by omega)]
    have e2 : (i * 4 + j) / 4 = i := by omega
    have e3 : (i * 4 + j) % 4 = j := by omega
    rw [e2, e3]
    have hlen : (pkG d.toList i).length = 4 := rfl
    rw [List.getElem?_eq_getElem (by omega), getElem!_pos _ _ (by omega)]
  refine step_more h1 rfl rfl rfl (by simp [sortWorldK, grow]) fun b hb => ?_
  simp only [sortWorldK, grow]
  rw [Array.getElem?_append_left hb]

theorem pairwise_of (d : Array Pkt) (h : SortedIn (ltOf cmpPk) 0 d.size d) : d.toList.Pairwise fun a b => a.seq ≤ b.seq := by
  rw [List.pairwise_iff_getElem]
  intro i j hi hj hij
  have := h i j (Nat.zero_le _) hij (by simpa using hj)
  rw [ltPk, decide_eq_false_iff_not] at this
  have e1 : d[i]! = d.toList[i] := by rw [getElem!_pos d i (by simpa using hi)]; simp
  have e2 : d[j]! = d.toList[j] := by rw [getElem!_pos d j (by simpa using hj)]; simp
  rw [e1, e2] at this
  omega

/-- slices.SortFunc, by the packets' numbers. -/
theorem sort67 (es : List Pkt) (hb : es.length < 4611686018427387904) :
    CallsA Try.prog 67 [.e (.s (.sl 0 4 0 es.length 0)), .e (.s (.fn 68 []))] [.row 36 4 es.length (pkG es)] fun r H' =>
      r = .tup [] ∧ ∃ d : List Pkt, d.Perm es ∧ d.Pairwise (fun a b => a.seq ≤ b.seq) ∧ H' = [.row 36 4 d.length (pkG d)] := by
  intro E w h ha
  have hrow : RowR E w 0 36 4 es.length (pkG es) := h.rep 0 _ rfl
  cases hn : E.nil 0 with
  | true =>
    have h0 : es.length = 0 := hrow.nil hn
    have he : es = [] := List.eq_nil_of_length_eq_zero h0
    subst he
    have hcon := AnyF.slices_SortFunc_none Try.sortPkt none 0 (.func (.func 68) #[] #[]) w
    change Calls Try.prog 67 _ _ _ at hcon
    have e1 : ([AV.e (.s (.sl 0 4 0 ([] : List Pkt).length 0)), .e (.s (.fn 68 []))].map (AV.conc E)).toArray = #[.slice none 0 0, .func (.func 68) #[] #[]] := by simp [AV.conc, EV.conc, SV.conc, hn]
    rw [e1]
    refine hcon.mono ?_
    rintro e w' ⟨rfl, rfl⟩
    exact ⟨.tup [], _, E, rfl, .refl h (Nat.le_refl _), Nat.zero_le _, undef_ok, rfl, [], List.Perm.refl _, List.Pairwise.nil, rfl⟩
  | false =>
    have eg : ∀ args w, (callFunc 68 args).run Try.prog w = .ok (.enter 68 args) w := enters_of Try.func68 (by kernel_rfl) rfl
    have hcon := AnyQ.slices_SortFunc Try.sortPkt 4 Try.isAgg36 Try.sizeOf36 Pkt.vals vals_len vals_one cmpPk swoPk 68 #[] (E.blk 0) (E.base 0) (E.cap 0) es.toArray w eg (cmpLays68 _ _ _ _) (holds_row hrow hn) (by
      obtain ⟨vs, hv, _⟩ := hrow.mem hn
      exact (Array.getElem?_eq_some_iff.1 hv).1) (by simpa using hb)
    change Calls Try.prog 67 _ _ _ at hcon
    have e1 : ([AV.e (.s (.sl 0 4 0 es.length 0)), .e (.s (.fn 68 []))].map (AV.conc E)).toArray = #[.slice (some ⟨E.blk 0, E.base 0, none⟩) es.toArray.size (E.cap 0), .func (.func 68) #[] #[]] := by simp [AV.conc, EV.conc, SV.conc, hn]
    rw [e1]
    refine hcon.mono ?_
    rintro e w' ⟨rfl, d, m, os, hp, hs, rfl⟩
    have hds : d.size = es.length := by simpa using hp.1
    have hst := sort_step h rfl hn d hds m os
    refine ⟨.tup [], _, E, rfl, hst, Nat.zero_le _, undef_ok, rfl, d.toList, ?_, pairwise_of d ?_, ?_⟩
    · have := hp.2.2
      have e2 : List.take es.length d.toList = d.toList := List.take_of_length_le (by simp [hds])
      simpa [hds, e2] using this
    · have := hs
      simpa [hds] using this
    · simp [hds]

end Go.Proofs.Ythckkoledhjmeaa.Ev
