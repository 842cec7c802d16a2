/-
  ledger.some, for any closure that parts the packets.
-/
import Derived.Test.YthckkoledhjmeaaTC
namespace Go.Proofs.Ythckkoledhjmeaa.Ev
open Go

theorem wpList_app {P : Program} {ops : Array Oper} {Q : Exit → Act → World → Prop} {l2 : List Oper} : ∀ (l1 : List Oper) (a : Act) (w : World), wpList P ops (Exit.then (wpList P ops Q l2) Q) l1 a w → wpList P ops Q (l1 ++ l2) a w
  | [], a, w, h => h
  | o :: l1, a, w, h => by
    rw [List.cons_append]
    unfold wpList at h ⊢
    split at h
    · rename_i hw
      rw [if_pos hw]
      rcases h with h | ⟨h1, a', w', h2⟩
      · refine .inl ?_
        unfold Oper.wp at *
        generalize (execOp a.eval o).run P w = r at *
        cases r with
        | ok n w' =>
          cases n <;> simp only [Oper.upon] at h ⊢ <;>
            first
              | exact wpList_app l1 _ _ h
              | exact Calls.mono h (fun e w'' he => by cases e <;> first | exact wpList_app l1 _ _ he | exact he)
              | exact Rows.mono h (fun _ _ he => wpList_app l1 _ _ he)
        | halt x w' => cases x <;> simp only [Oper.upon] at h ⊢ <;> exact h
      · exact .inr ⟨h1, a', w', h2⟩
    · rename_i hw
      rw [if_neg hw]
      exact wpList_app l1 _ _ h

theorem body_f41 : Try.f41.body = some (bodyOf Try.prog 41) := by kernel_rfl
theorem r41a_ok : codeB oN (r41 [true]) = true := by kernel_rfl
theorem r41b_ok : codeB oN (r41 [false, true]) = true := by kernel_rfl
theorem r41c_ok : codeB oN (r41 [false, false, false]) = true := by kernel_rfl

/-- 'range' over a map of packets. -/
theorem run_range {P : Program} {w : World} {t k e : TypeId} (ht : P.underlying t = some (.map k e)) {bm clock : Nat} {ents : Array MapEntry} (hb : w.heap[bm]? = some (.map ents clock)) :
    (Instr.range t (.map (some bm))).run P w = .ok (.pointer (some ⟨w.heap.size, 0, none⟩)) (w.alloc (.mapIter (some bm) clock #[] clock)) := by
  simp [Instr.range, run_underlying ht, getObj_map hb]

theorem map_facts {es : List Pkt} {ents : Array MapEntry} {clock : Nat} (h : MapR es ents clock) :
    ∃ pkO : MapEntry → Pkt, (∀ e ∈ ents.toList, e.key = .int .u64 (pkO e).seq ∧ e.val = .agg (pkO e).vals.toArray) ∧ ents.toList.map pkO = es := by
  refine ⟨fun e => match e.val with | .agg cs => decPkt cs.toList | _ => Pkt.zero, ?_, ?_⟩
  · intro e he
    have : (e.key, e.val) ∈ ents.toList.map (fun e => (e.key, e.val)) := List.mem_map.2 ⟨e, he, rfl⟩
    rw [h.kv] at this
    obtain ⟨p, _, hp⟩ := List.mem_map.1 this
    simp only [Prod.mk.injEq] at hp
    refine ⟨?_, ?_⟩
    · rw [← hp.1]; simp only [← hp.2]; rfl
    · simp only [← hp.2]; rfl
  · have := congrArg (List.map fun x : Value × Value => match x.2 with | .agg cs => decPkt cs.toList | _ => Pkt.zero) h.kv
    simp only [List.map_map] at this
    have e2 : ((fun x : Value × Value => match x.2 with | .agg cs => decPkt cs.toList | _ => Pkt.zero) ∘ fun p : Pkt => (Value.int .u64 p.seq, Value.agg p.vals.toArray)) = id := by funext p; rfl
    rw [e2, List.map_id] at this
    exact this

/-- What is asked of the trees. -/
structure Some41 (N : Nat) (H Hb : Heap) (f : SV) (es : List Pkt) (pred : Pkt → Bool) : Prop where
  pm : H[1]? = some (.pm es)
  len : H.length = N
  pos : 1 < N
  hb : H.set 1 .dead = Hb
  ro : noRo H = true
  round : Round41 Hb f pred
  pre : pre41 N ⟨fr0 f, H⟩ = .ret ([.e (.s f), .c (.slice none 0 0), .e (.s (.mp 1))], H)
  post : ∀ (it : SV) (vs : Nat → Value) (n : Nat) (g : Nat → List Value), ∃ k, post41 N ⟨fat [1, 5, 12] vs [.e (.s f), .e (.s (.sl N 4 0 n 0)), .e (.s it)] 27 0, H ++ [.row 36 4 n g]⟩ = .call 67 [.e (.s (.sl N 4 0 n 0)), .e (.s (.fn 68 []))] (H ++ [.row 36 4 n g]) k ∧
    ∀ g', k (.tup []) (H ++ [.row 36 4 n g']) = .ret (.e (.s (.sl N 4 0 n 0)), H ++ [.row 36 4 n g'])

set_option maxRecDepth 100000 in
theorem some41_open (L : LSt) : Some41 2 [.cells 86 (lc L 1), .pm L.es] [.cells 86 (lc L 1), .dead] (.fn 44 []) L.es (fun _ => true) where
  pm := rfl
  len := rfl
  pos := by decide
  hb := rfl
  ro := rfl
  round := by
    have h := round41_open L
    exact h
  pre := (tP2_eq L (.fn 44 []) :)
  post it vs n g := by
    have e := tQ2_eq L (.fn 44 []) it vs n g
    refine ⟨(tQ2 L (.fn 44 []) it vs n g).kontC, ?_, fun g' => ?_⟩
    · exact (e :)
    · have e := tQ2k_eq L (.fn 44 []) it vs n g g'
      exact (e :)

set_option maxRecDepth 100000 in
theorem some41_expire (L : LSt) (att tmo : Int) : Some41 4 [.cells 86 (lc L 1), .pm L.es, .cells 3 [.d (.int .i64 att)], .cells 3 [.d (.int .i64 tmo)]] [.cells 86 (lc L 1), .dead, .cells 3 [.d (.int .i64 att)], .cells 3 [.d (.int .i64 tmo)]] (.fn 42 [(2, 0), (3, 0)]) L.es (overB att tmo) where
  pm := rfl
  len := rfl
  pos := by decide
  hb := rfl
  ro := rfl
  round := by
    have h := round41_expire L att tmo
    exact h
  pre := (tP4_eq L att tmo (.fn 42 [(2, 0), (3, 0)]) :)
  post it vs n g := by
    have e := tQ4_eq L att tmo (.fn 42 [(2, 0), (3, 0)]) it vs n g
    refine ⟨(tQ4 L att tmo (.fn 42 [(2, 0), (3, 0)]) it vs n g).kontC, ?_, fun g' => ?_⟩
    · exact (e :)
    · have e := tQ4k_eq L att tmo (.fn 42 [(2, 0), (3, 0)]) it vs n g g'
      exact (e :)

end Go.Proofs.Ythckkoledhjmeaa.Ev
