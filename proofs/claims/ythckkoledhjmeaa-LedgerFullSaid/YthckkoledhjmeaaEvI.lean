/-
  The abstract evaluator: slices that are written out; maps of packets.
-/
import Derived.Test.YthckkoledhjmeaaEvH
namespace Go.Proofs.Ythckkoledhjmeaa.Ev
open Go

section
variable {P : Program} {E : Env} {H : Heap} {fr : List AV} {a : Act} {w : World}

theorem fillA_len (place : Nat → Option (Nat × Nat)) : ∀ (parts : List (Nat × AV)) (cells cs : List SV), fillA place cells parts = some cs → cs.length = cells.length
  | [], cells, cs, h => by
    simp only [fillA, Option.some.injEq] at h
    subst h
    rfl
  | (i, v) :: rest, cells, cs, h => by
    simp only [fillA] at h
    cases hpl : place i with
    | none => simp [hpl] at h
    | some os =>
      obtain ⟨off, size⟩ := os
      cases hv : v.cells with
      | none => simp [hpl, hv] at h
      | some ds =>
        simp only [hpl, hv] at h
        split at h
        · rename_i hc
          rw [fillA_len place rest _ cs h]
          simp only [List.length_append, List.length_take, List.length_drop]
          omega
        · cases h

theorem eff_buildSlice (h : HRep E H w) (hf : FRep E H.length fr a) {o : Oper} {t : TypeId} {m : Nat} {parts : Array (Nat × Operand)} (hop : o.op = .buildSlice t m parts) {Q : AV × Heap → Prop} (hq : (effA P fr H o.op).sat P Q) : EffOk P E H w a o Q := by
  rw [hop] at hq
  simp only [effA] at hq
  split at hq
  · rename_i e he
    split at hq
    · rename_i k z hs hz
      split at hq
      · rename_i hc
        obtain ⟨c1, c2⟩ := hc
        split at hq
        · rename_i cs hcs
          split at hq
          · rename_i vs hvs
            obtain ⟨hv1, hv2⟩ := vals_conc (E := E) hvs
            have hlen : cs.length = m * (k + 1) := by
              rw [fillA_len _ _ _ _ hcs]
              simp [c1]
            have hvl : vs.length = m * (k + 1) := by rw [hv1, List.length_map, hlen]
            have hE := Env.push_agree E H.length w.heap.size 0 m false
            have hst := step_push h hE (B := .lit e (k + 1) (chunksOf (k + 1) m vs)) (fun _ => by simp) (lit_row e (k + 1) m vs (by omega) hvl hv2 E w H.length) trivial (fun _ _ _ => by simp) (fun b hb => heap_alloc_old w _ hb) (by simp) rfl rfl rfl
            have hok : (AV.e (.s (.sl H.length (k + 1) 0 m 0))).ok (E.push H.length w.heap.size 0 m false) := ok_s.2 ⟨fun hn => by simp at hn, fun _ => by simp⟩
            refine ⟨_, .e (.s (.sl H.length (k + 1) 0 m 0)), _, _, _, ?_, .inl rfl, hst, by simp [AV.ref, EV.ref, SV.ref], hok, hq⟩
            have ht := run_elemT he
            obtain ⟨zv, hzv, hzc, _⟩ := run_zeroValue hz E w
            have hzs : zv.cells.size = k + 1 := by rw [← Array.length_toList, hzc, List.length_map, c1]
            have hsmall : ¬ (m * (k + 1) > 2 ^ 24) := by omega
            have hcell : ∀ acc : Array Value, acc.toList = ((List.replicate m z).flatten).map (SV.conc E) →
                ∃ out, Instr.fill (fun i => some (i * (k + 1), k + 1)) acc (parts.toList.map fun x => (x.1, a.eval x.2)) = some out ∧ out = vs.toArray := by
              intro acc hacc
              obtain ⟨out, ho, hout⟩ := fill_conc (E := E) _ _ _ cs acc hcs hacc
              refine ⟨out, ?_, by rw [hv1, ← hout, Array.toArray_toList]⟩
              rw [← ho]
              congr 1
              simp [hf.eval]
            simp only [execOp, hop, Instr.buildSlice, Sem.run_bind, run_underlying ht, Result.andThen_ok, run_sizeOf hs, if_neg hsmall, Sem.run_pure]
            by_cases hm : m = 0
            · subst hm
              obtain ⟨out, ho, hout⟩ := hcell #[] (by simp)
              have hr0 : Array.range 0 = #[] := rfl
              simp [ho, hout, hr0, newRow, AV.conc, EV.conc, SV.conc]
            · have hne : ¬ (m * (k + 1) = 0) := by
                intro h0
                rcases Nat.mul_eq_zero.1 h0 with h0 | h0 <;> omega
              obtain ⟨out, ho, hout⟩ := hcell ((Array.range (m * (k + 1))).map (zv.cells[· % zv.cells.size]!)) (by
                apply List.ext_getElem?
                intro x
                by_cases hx : x < m * (k + 1)
                · have hmod : x % (k + 1) < k + 1 := Nat.mod_lt _ (by omega)
                  have e1 : ((List.replicate m z).flatten)[x]? = z[x % z.length]? := rep_get (n := 0) m x (by rw [c1]; exact hx)
                  have e2 : zv.cells[x % (k + 1)]? = (z[x % (k + 1)]?).map (SV.conc E) := by rw [← Array.getElem?_toList, hzc, List.getElem?_map]
                  rw [List.getElem?_map, e1, c1, ← e2]
                  have hlt : x % (k + 1) < zv.cells.size := by omega
                  simp only [hx, hzs, Array.toList_map, Array.toList_range, List.getElem?_map, List.getElem?_range, Option.map_some]
                  rw [getElem!_pos zv.cells (x % (k + 1)) hlt, Array.getElem?_eq_getElem hlt]
                · rw [List.getElem?_eq_none (by simp; omega), List.getElem?_eq_none (by simp [c1]; omega)])
              have epm : (parts.map fun (i, x) => (i, a.eval x)).toList = parts.toList.map fun x => (x.1, a.eval x.2) := by simp
              simp only [if_neg hne, hzv, Result.andThen_ok, Sem.run_bind, Sem.run_pure, epm, ho, hout]
              simp [newRow, AV.conc, EV.conc, SV.conc]
          · cases hq
        · cases hq
      · cases hq
    · cases hq
  · cases hq

theorem map_eraseIdx' {α β : Type} (f : α → β) : ∀ (l : List α) (i : Nat), (l.eraseIdx i).map f = (l.map f).eraseIdx i
  | [], i => by simp
  | x :: l, 0 => by simp
  | x :: l, i + 1 => by simp [map_eraseIdx' f l i]

/-! ### Maps of packets -/

structure PktMap (P : Program) (t : TypeId) : Prop where
  ex : ∃ k e, P.underlying t = some (.map k e) ∧ P.underlying k = some (.int .u64) ∧ ∃ cs, (P.info? e).bind (·.zero) = some (.agg cs) ∧ cs.toList = [.int .u64 0, .int .i64 0, .int .i64 0, .int .i64 0]

theorem pktMap {t : TypeId} (h : pktMapT P t = true) : PktMap P t := by
  unfold pktMapT at h
  cases hu : P.underlying t with
  | none => simp [hu] at h
  | some d =>
    cases d <;> simp only [hu] at h <;> try (cases h; done)
    rename_i k e
    simp only [Bool.and_eq_true] at h
    obtain ⟨h1, h2⟩ := h
    refine ⟨k, e, hu, ?_, ?_⟩
    · cases hk : P.underlying k with
      | none => simp [hk] at h1
      | some d =>
        cases d <;> simp only [hk] at h1 <;> try (cases h1; done)
        rename_i q
        cases q <;> simp at h1
        rfl
    · cases hz : (P.info? e).bind (·.zero) with
      | none => simp [hz] at h2
      | some v =>
        cases v <;> simp only [hz] at h2 <;> try (cases h2; done)
        rename_i cs
        refine ⟨cs, rfl, ?_⟩
        split at h2
        · assumption
        · cases h2

theorem run_checkKey (b : Bool) {k : TypeId} (hk : P.underlying k = some (.int .u64)) (s : Int) : (Instr.checkKey b 10000 k (.int .u64 s)).run P w = .ok () w := by
  have : ∀ d, (Instr.checkKey b (d + 1) k (.int .u64 s)).run P w = .ok () w := by intro d; simp [Instr.checkKey, run_underlying hk]
  exact this 9999

theorem findNow_spec (s : Int) : ∀ (es : List Pkt) (ents : List MapEntry) (i0 : Nat), ents.map (fun e => (e.key, e.val)) = es.map (fun p => (Value.int .u64 p.seq, Value.agg p.vals.toArray)) →
    Instr.findNow (.int .u64) (.int .u64 s) ents i0 = some (match es.findIdx? (fun p => s == p.seq) with
      | some j => some (i0 + j, Value.agg (findP es s).vals.toArray)
      | none => none)
  | [], [], i0, _ => by simp [Instr.findNow]
  | [], _ :: _, i0, h => by simp at h
  | _ :: _, [], i0, h => by simp at h
  | p :: es, e :: ents, i0, h => by
    simp only [List.map_cons, List.cons.injEq, Prod.mk.injEq] at h
    obtain ⟨⟨hk, hv⟩, hr⟩ := h
    have ih := findNow_spec s es ents (i0 + 1) hr
    simp only [Instr.findNow, hk, Instr.sameNow, if_true, List.findIdx?_cons, findP, List.find?_cons]
    cases hb : s == p.seq with
    | true => simp [hv]
    | false =>
      simp only [ih, findP]
      cases es.findIdx? (fun p => s == p.seq) with
      | none => simp
      | some j => simp; omega

theorem run_findKey {k : TypeId} (hk : P.underlying k = some (.int .u64)) (s : Int) {es : List Pkt} {ents : List MapEntry} (h : ents.map (fun e => (e.key, e.val)) = es.map (fun p => (Value.int .u64 p.seq, Value.agg p.vals.toArray))) :
    (Instr.findKey k (.int .u64 s) ents).run P w = .ok (match es.findIdx? (fun p => s == p.seq) with
      | some j => some (j, Value.agg (findP es s).vals.toArray)
      | none => none) w := by
  have := findNow_spec s es ents 0 h
  simp only [Nat.zero_add] at this
  simp [Instr.findKey, run_underlying hk, this]

theorem findIdx_has (es : List Pkt) (s : Int) : (es.findIdx? fun p => s == p.seq).isSome = hasP es s := by
  simp [hasP]

theorem pkt_conc (p : Pkt) : (AV.e (.agg p.cells)).conc E = .agg p.vals.toArray := rfl

theorem getObj_map {r : Nat} {ents : Array MapEntry} {c : Nat} (hb : w.heap[r]? = some (.map ents c)) : (getObj r).run P w = .ok (.map ents c) w := by simp [getObj, Sem.run, hb]

theorem setObj_map {r : Nat} {ents : Array MapEntry} {c : Nat} (hb : w.heap[r]? = some (.map ents c)) (o : Obj) : (setObj r o).run P w = .ok () { w with heap := w.heap.setIfInBounds r o } := by simp [setObj, Sem.run, hb]

theorem setObj_step (h : HRep E H w) {l : Nat} {es es' : List Pkt} (hl : H[l]? = some (.pm es)) {ents : Array MapEntry} {c : Nat} (hm : MapR es' ents c) :
    Step H.length E H w E (H.set l (.pm es')) { w with heap := w.heap.setIfInBounds (E.blk l) (.map ents c) } := by
  have hlt := (h.rep l _ hl).lt rfl
  refine step_set h hl rfl ⟨ents, c, by simp [hlt], hm⟩ trivial (fun _ _ _ => by simp) (fun b hb => ?_) (by simp) rfl rfl rfl
  simp [Ne.symm hb]

theorem eff_makeMap (h : HRep E H w) (_ : FRep E H.length fr a) {o : Oper} {t : TypeId} (hop : o.op = .makeMap t none) {Q : AV × Heap → Prop} (hq : (effA P fr H o.op).sat P Q) : EffOk P E H w a o Q := by
  rw [hop] at hq
  simp only [effA] at hq
  split at hq
  · have hE := Env.push_agree E H.length w.heap.size 0 0 false
    have hst := step_push (w' := w.alloc (.map #[] 0)) h hE (B := .pm []) (fun _ => by simp) ⟨#[], 0, by simp only [Env.push_blk, heap_alloc_new], ⟨rfl, List.nodup_nil, by simp⟩⟩ trivial (fun _ _ _ => by simp) (fun b hb => heap_alloc_old w _ hb) (by simp) rfl rfl rfl
    refine ⟨_, .e (.s (.mp H.length)), _, _, _, ?_, .inl rfl, hst, by simp [AV.ref, EV.ref, SV.ref], ok_s.2 trivial, hq⟩
    simp [execOp, hop, Instr.makeMap, AV.conc, EV.conc, SV.conc]
  · cases hq

theorem eff_lookup (h : HRep E H w) (hf : FRep E H.length fr a) {o : Oper} {t : TypeId} {m key : Operand} (hop : o.op = .lookup t m key true) {Q : AV × Heap → Prop} (hq : (effA P fr H o.op).sat P Q) : EffOk P E H w a o Q := by
  rw [hop] at hq
  simp only [effA] at hq
  split at hq
  · rename_i l s hm hk
    split at hq
    · rename_i es hl
      split at hq
      · rename_i hp
        obtain ⟨k, e, hu, huk, cs, hz, hcs⟩ := (pktMap hp).ex
        obtain ⟨ents, clock, hb, hmr⟩ := h.rep l _ hl
        have hfk := run_findKey (P := P) (w := w) huk s (es := es) (ents := ents.toList) hmr.kv
        have e1 : (opnd fr m).conc E = .map (some (E.blk l)) := by rw [hm]; rfl
        have e2 : (opnd fr key).conc E = .int .u64 s := by rw [hk]; rfl
        have hhas := findIdx_has es s
        have hzero : (zeroValue e).run P w = .ok (.agg Pkt.zero.vals.toArray) w := by
          have : cs = Pkt.zero.vals.toArray := by rw [← Array.toList_inj]; exact hcs
          obtain ⟨i, hi, hiz⟩ := Option.bind_eq_some_iff.1 hz
          simp [zeroValue, typeInfo, hi, hiz, this]
        have hpc : ∀ p : Pkt, ∀ b : Bool, (AV.tup [.agg p.cells, .s (.c (.bool b))]).ref = 0 := fun p b => rfl
        have hpo : ∀ p : Pkt, ∀ b : Bool, (AV.tup [.agg p.cells, .s (.c (.bool b))]).ok E := by
          intro p b x hx
          simp only [AV.svs, EV.svs, Pkt.cells, List.flatMap_cons, List.flatMap_nil, List.append_nil, List.cons_append, List.nil_append, List.mem_cons, List.not_mem_nil, or_false] at hx
          rcases hx with rfl | rfl | rfl | rfl | rfl <;> trivial
        cases hi : es.findIdx? (fun p => s == p.seq) with
        | some j =>
          rw [hi] at hhas hfk
          refine ⟨_, .tup [.agg (findP es s).cells, .s (.c (.bool true))], H, E, w, ?_, .inl rfl, .refl h (Nat.le_refl _), by rw [hpc]; omega, hpo _ _, hq.1 hhas.symm⟩
          simp only [execOp, hop, hf.eval, e1, e2, Instr.lookup, Sem.run_bind, run_underlying hu, Result.andThen_ok, getObj_map hb, run_checkKey _ huk, hfk, Sem.run_pure, if_true]
          rfl
        | none =>
          rw [hi] at hhas hfk
          refine ⟨_, .tup [.agg Pkt.zero.cells, .s (.c (.bool false))], H, E, w, ?_, .inl rfl, .refl h (Nat.le_refl _), by rw [hpc]; omega, hpo _ _, hq.2 hhas.symm⟩
          simp only [execOp, hop, hf.eval, e1, e2, Instr.lookup, Sem.run_bind, run_underlying hu, Result.andThen_ok, getObj_map hb, run_checkKey _ huk, hfk, Sem.run_pure, if_true, hzero]
          rfl
      · cases hq
    · cases hq
  · cases hq

theorem eff_mapUpdate (h : HRep E H w) (hf : FRep E H.length fr a) {o : Oper} {t : TypeId} {m key x : Operand} (hop : o.op = .mapUpdate t m key x) {Q : AV × Heap → Prop} (hq : (effA P fr H o.op).sat P Q) : EffOk P E H w a o Q := by
  rw [hop] at hq
  simp only [effA] at hq
  split at hq
  · rename_i l s cs hm hk hx
    split at hq
    · rename_i es p q r d hl hvs
      split at hq
      · rename_i hp
        obtain ⟨⟨rfl, hnew⟩, hq⟩ := hq
        obtain ⟨k, e, hu, huk, _⟩ := (pktMap hp).ex
        obtain ⟨ents, clock, hb, hmr⟩ := h.rep l _ hl
        have hfk := run_findKey (P := P) (w := w) huk s (es := es) (ents := ents.toList) hmr.kv
        have hhas := findIdx_has es s
        rw [hnew] at hhas
        have hnone : es.findIdx? (fun p => s == p.seq) = none := by simpa using hhas
        rw [hnone] at hfk
        have e1 : (opnd fr m).conc E = .map (some (E.blk l)) := by rw [hm]; rfl
        have e2 : (opnd fr key).conc E = .int .u64 s := by rw [hk]; rfl
        have e3 : (opnd fr x).conc E = .agg (Pkt.mk s q r d).vals.toArray := by
          rw [hx]
          simp only [AV.conc, EV.conc, ← (vals_conc (E := E) hvs).1]
          rfl
        have hmr' : MapR (es ++ [⟨s, q, r, d⟩]) (ents.push { key := .int .u64 s, val := .agg (Pkt.mk s q r d).vals.toArray, born := clock }) (clock + 1) := by
          refine ⟨by simp [hmr.kv], ?_, ?_⟩
          · rw [Array.toList_push, List.map_append, List.nodup_append]
            refine ⟨hmr.born, by simp, ?_⟩
            intro x hx y hy
            simp only [List.map_cons, List.map_nil, List.mem_singleton] at hy
            obtain ⟨z, hz, rfl⟩ := List.mem_map.1 hx
            have := hmr.young z hz
            omega
          · intro x hx
            rw [Array.toList_push, List.mem_append] at hx
            rcases hx with hx | hx
            · have := hmr.young x hx; omega
            · simp only [List.mem_singleton] at hx; subst hx; simp
        refine ⟨.skip, _, _, E, _, ?_, .inr ⟨rfl, rfl⟩, setObj_step h hl hmr', Nat.zero_le _, undef_ok, hq⟩
        simp only [execOp, hop, hf.eval, e1, e2, e3, Instr.mapUpdate, Sem.run_bind, run_underlying hu, Result.andThen_ok, getObj_map hb, run_checkKey _ huk, hfk, setObj_map hb, Sem.run_pure]
      · cases hq
    · cases hq
  · cases hq

theorem eraseP_idx (p : Pkt → Bool) : ∀ es : List Pkt, es.eraseP p = match es.findIdx? p with | some i => es.eraseIdx i | none => es
  | [] => by simp
  | x :: es => by
    rw [List.eraseP_cons, List.findIdx?_cons]
    cases hx : p x with
    | true => simp
    | false =>
      have ih := eraseP_idx p es
      simp only [ih]
      cases es.findIdx? p <;> simp

theorem eff_delete (h : HRep E H w) (hf : FRep E H.length fr a) {o : Oper} {args : Array Operand} {argTypes : Array TypeId} (hop : o.op = .call { callee := .builtin .delete, args, argTypes }) {Q : AV × Heap → Prop} (hq : (effA P fr H o.op).sat P Q) : EffOk P E H w a o Q := by
  rw [hop] at hq
  simp only [effA] at hq
  split at hq
  · rename_i l s t r h1 h2
    split at hq
    · rename_i es hl
      split at hq
      · rename_i hp
        obtain ⟨k, e, hu, huk, _⟩ := (pktMap hp).ex
        obtain ⟨ents, clock, hb, hmr⟩ := h.rep l _ hl
        have hfk := run_findKey (P := P) (w := w) huk s (es := es) (ents := ents.toList) hmr.kv
        have e1 : args.map a.eval = #[.map (some (E.blk l)), .int .u64 s] := by
          have : (args.map a.eval).toList = (args.toList.map (opnd fr)).map (AV.conc E) := by simp [hf.eval]
          rw [← Array.toList_inj, this, h1]
          rfl
        have e2 : argTypes[0]? = some t := by rw [← Array.getElem?_toList, h2]; rfl
        have herase := eraseP_idx (fun p => s == p.seq) es
        cases hi : es.findIdx? (fun p => s == p.seq) with
        | some j =>
          rw [hi] at hfk herase
          have hj : j < es.length := (List.findIdx?_eq_some_iff_getElem.1 hi).1
          have hsz : ents.size = es.length := by have := congrArg List.length hmr.kv; simpa using this
          have hlist : (ents.eraseIdxIfInBounds j).toList = ents.toList.eraseIdx j := by
            simp [Array.eraseIdxIfInBounds, show j < ents.size by omega]
          have hmr' : MapR (delP es s) (ents.eraseIdxIfInBounds j) clock := by
            refine ⟨?_, ?_, fun x hx => hmr.young x ?_⟩
            · rw [hlist, map_eraseIdx', hmr.kv]
              simp only [delP, herase, map_eraseIdx']
            · rw [hlist, map_eraseIdx']
              exact hmr.born.sublist (List.eraseIdx_sublist _ _)
            · rw [hlist] at hx
              exact List.mem_of_mem_eraseIdx hx
          refine ⟨_, .tup [], _, E, _, ?_, .inl rfl, setObj_step h hl hmr', Nat.zero_le _, undef_ok, hq⟩
          simp [execOp, hop, resolve, e1, invoke, builtin, Builtin.delete_, e2, run_underlying hu, getObj_map hb, run_checkKey _ huk, hfk, setObj_map hb, AV.conc]
        | none =>
          rw [hi] at hfk herase
          have hmr' : MapR (delP es s) ents clock := by simp only [delP, herase]; exact hmr
          refine ⟨_, .tup [], _, E, _, ?_, .inl rfl, setObj_step h hl hmr', Nat.zero_le _, undef_ok, hq⟩
          simp [execOp, hop, resolve, e1, invoke, builtin, Builtin.delete_, e2, run_underlying hu, getObj_map hb, run_checkKey _ huk, hfk, setObj_map hb, AV.conc]
      · cases hq
    · cases hq
  · cases hq

end
end Go.Proofs.Ythckkoledhjmeaa.Ev
