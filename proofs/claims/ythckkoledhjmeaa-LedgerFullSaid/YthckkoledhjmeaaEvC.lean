/-
  The abstract evaluator: an operation that touches no memory gives what the evaluator says, in every world.
-/
import Derived.Test.YthckkoledhjmeaaEvB
namespace Go.Proofs.Ythckkoledhjmeaa.Ev
open Go

section
variable {P : Program} {E : Env} {n : Nat} {fr : List AV} {a : Act}

theorem run_sizeOf {t : TypeId} {s : Nat} (h : sizeOfT P t = some s) (w : World) : (sizeOf t).run P w = .ok s w := by
  simp only [sizeOfT, Option.map_eq_some_iff] at h
  obtain ⟨i, hi, rfl⟩ := h
  simp [sizeOf, typeInfo, hi]

theorem run_zeroValue {t : TypeId} {z : List SV} (h : zeroOf P t = some z) (E : Env) (w : World) :
    ∃ v : Value, (zeroValue t).run P w = .ok v w ∧ v.cells.toList = z.map (SV.conc E) ∧ (z.all SV.one = true → ∀ x ∈ v.cells.toList, x.oneCell' = true) := by
  simp only [zeroOf, Option.map_eq_some_iff, Option.bind_eq_some_iff] at h
  obtain ⟨v, ⟨i, hi, hz⟩, rfl⟩ := h
  refine ⟨v, by simp [zeroValue, typeInfo, hi, hz], ?_, ?_⟩
  · rw [List.map_map]
    conv => lhs; rw [← List.map_id v.cells.toList]
    exact List.map_congr_left fun x _ => rfl
  · intro ho x hx
    have := List.all_eq_true.1 ho (SV.c x) (List.mem_map_of_mem hx)
    exact this

theorem zeroOf_ref {t : TypeId} {z : List SV} (h : zeroOf P t = some z) : refs z ≤ 0 := by
  simp only [zeroOf, Option.map_eq_some_iff] at h
  obtain ⟨v, _, rfl⟩ := h
  rw [refs_le]
  intro x hx
  obtain ⟨y, _, rfl⟩ := List.mem_map.1 hx
  simp [SV.ref]

theorem run_isAgg {t : TypeId} {b : Bool} (h : aggT P t = some b) (w : World) : (isAgg t).run P w = .ok b w := by
  unfold aggT at h
  cases hu : P.underlying t with
  | none => simp [hu] at h
  | some d =>
    rw [hu] at h
    cases d <;> simp_all [isAgg, run_underlying hu]

theorem one_conc {x : SV} (h : x.one = true) : (x.conc E).oneCell' = true := by
  cases x <;> simp only [SV.conc]
  case c v => exact h
  case d v => exact h
  case sl l k i n z => cases E.nil l <;> rfl
  all_goals rfl

theorem cells_of_one {v : Value} (h : v.oneCell' = true) : v.cells = #[v] := by
  cases v <;> first | rfl | (simp [Value.oneCell'] at h)

theorem cells_conc {v : AV} {cs : List SV} (h : v.cells = some cs) : (v.conc E).cells.toList = cs.map (SV.conc E) := by
  cases v with
  | tup vs => simp [AV.cells] at h
  | e x =>
    cases x with
    | s y =>
      simp only [AV.cells] at h
      split at h
      · rename_i hy
        simp only [Option.some.injEq] at h
        subst h
        simp [AV.conc, EV.conc, cells_of_one (one_conc hy)]
      · cases h
    | agg ds =>
      simp only [AV.cells, Option.some.injEq] at h
      subst h
      simp [AV.conc, EV.conc, Value.cells]

theorem cells_ref {v : AV} {cs : List SV} (h : v.cells = some cs) (hv : v.ref ≤ n) : refs cs ≤ n := by
  cases v with
  | tup vs => simp [AV.cells] at h
  | e x =>
    cases x with
    | s y =>
      simp only [AV.cells] at h
      split at h
      · simp only [Option.some.injEq] at h
        subst h
        simpa [refs, AV.ref, EV.ref] using hv
      · cases h
    | agg ds =>
      simp only [AV.cells, Option.some.injEq] at h
      subst h
      exact hv

theorem run_fieldOff {s : TypeId} {f off : Nat} {ft : TypeId} (h : fieldOff P s f = some (off, ft)) :
    ∃ fs x, P.underlying s = some (.struct fs) ∧ fs[f]? = some x ∧ x.offset = off ∧ x.type = ft ∧ ∃ k, sizeOfT P ft = some (k + 1) := by
  unfold fieldOff at h
  cases hu : P.underlying s with
  | none => simp [hu] at h
  | some d =>
    cases d <;> simp only [hu] at h <;> try (cases h; done)
    rename_i fs
    cases hf : fs[f]? with
    | none => simp [hf] at h
    | some x =>
      simp only [hf] at h
      cases hs : sizeOfT P x.type with
      | none => simp [hs] at h
      | some m =>
        cases m with
        | zero => simp [hs] at h
        | succ k =>
          simp only [hs, Option.some.injEq, Prod.mk.injEq] at h
          obtain ⟨rfl, rfl⟩ := h
          exact ⟨fs, x, rfl, hf, rfl, rfl, k, hs⟩

theorem run_fieldAt {s : TypeId} {f off : Nat} {ft : TypeId} (h : fieldOff P s f = some (off, ft)) (b o : Nat) (w : World) :
    (Instr.fieldAt s (.pointer (some ⟨b, o, none⟩)) f).run P w = .ok (.pointer (some ⟨b, o + off, none⟩)) w := by
  obtain ⟨fs, x, hu, hf, rfl, rfl, k, hs⟩ := run_fieldOff h
  have hadd : (⟨b, o, none⟩ : Addr).add x.offset = ⟨b, o + x.offset, none⟩ := by unfold Addr.add; split <;> simp_all
  simp [Instr.fieldAt, run_underlying hu, hf, Instr.sureAddr, fieldPlace, run_sizeOf hs, hadd]

theorem run_elemT {t e : TypeId} (h : elemT P t = some e) : P.underlying t = some (.slice e) := by
  unfold elemT at h
  cases hu : P.underlying t with
  | none => simp [hu] at h
  | some d => cases d <;> simp_all

theorem asInt_conc {v : AV} {j : Int} (h : asInt v = some j) : ∃ k, v.conc E = .int k j := by
  unfold asInt at h
  split at h
  · cases h; exact ⟨_, rfl⟩
  · cases h; exact ⟨_, rfl⟩
  · cases h

/-! ### Filling -/

theorem foldl_set (cs : List Value) (off : Nat) : ∀ (j : Nat) (acc : Array Value), off + j + cs.length ≤ acc.size →
    ((cs.zipIdx j).foldl (fun cs (c, j) => cs.setIfInBounds (off + j) c) acc).toList = acc.toList.take (off + j) ++ cs ++ acc.toList.drop (off + j + cs.length) := by
  induction cs with
  | nil => intro j acc _; simp
  | cons c cs ih =>
    intro j acc h
    simp only [List.length_cons] at h
    simp only [List.zipIdx_cons, List.foldl_cons]
    rw [ih (j + 1) _ (by simp; omega)]
    have hlt : off + j < acc.toList.length := by simp; omega
    rw [Array.toList_setIfInBounds]
    generalize acc.toList = l at hlt ⊢
    have h1 : off + (j + 1) = off + j + 1 := by omega
    have h2 : off + (j + 1) + cs.length = off + j + (cs.length + 1) := by omega
    rw [h2, h1, List.drop_set_of_lt (by omega), List.take_add_one, List.take_set_of_le (by omega), List.getElem?_set_self hlt]
    simp

theorem fill_conc (place : Nat → Option (Nat × Nat)) : ∀ (parts : List (Nat × AV)) (cells cs : List SV) (acc : Array Value), fillA place cells parts = some cs → acc.toList = cells.map (SV.conc E) →
    ∃ out : Array Value, Instr.fill place acc (parts.map fun (i, v) => (i, v.conc E)) = some out ∧ out.toList = cs.map (SV.conc E)
  | [], cells, cs, acc, h, ha => by
    simp only [fillA, Option.some.injEq] at h
    subst h
    exact ⟨acc, rfl, ha⟩
  | (i, v) :: rest, cells, cs, acc, h, ha => by
    simp only [fillA] at h
    cases hp : place i with
    | none => simp [hp] at h
    | some os =>
      obtain ⟨off, size⟩ := os
      cases hv : v.cells with
      | none => simp [hp, hv] at h
      | some ds =>
        simp only [hp, hv] at h
        split at h
        · rename_i hc
          obtain ⟨h1, h2⟩ := hc
          have hds := cells_conc (E := E) hv
          have hlen : (v.conc E).cells.size = size := by rw [← Array.length_toList, hds, List.length_map, h1]
          have hacc : acc.size = cells.length := by rw [← Array.length_toList, ha, List.length_map]
          have hfold := foldl_set (v.conc E).cells.toList off 0 acc (by simp only [Array.length_toList, hlen, hacc]; omega)
          obtain ⟨out, ho, hout⟩ := fill_conc place rest _ cs ((v.conc E).cells.toList.zipIdx.foldl (fun cs (c, j) => cs.setIfInBounds (off + j) c) acc) h (by
            rw [hfold, ha, hds]
            simp [h1])
          refine ⟨out, ?_, hout⟩
          simp only [List.map_cons, Instr.fill, hp]
          rw [if_neg (by simp [hlen, hacc]; omega)]
          rw [← ho]
          congr 1
          rw [← Array.foldl_toList, Array.toList_zipIdx]
        · cases h

theorem fillA_ref (place : Nat → Option (Nat × Nat)) : ∀ (parts : List (Nat × AV)) (cells cs : List SV), fillA place cells parts = some cs → refs cells ≤ n → (∀ x ∈ parts, x.2.ref ≤ n) → refs cs ≤ n
  | [], cells, cs, h, hc, _ => by
    simp only [fillA, Option.some.injEq] at h
    subst h
    exact hc
  | (i, v) :: rest, cells, cs, h, hc, hp => by
    simp only [fillA] at h
    cases hpl : place i with
    | none => simp [hpl] at h
    | some os =>
      obtain ⟨off, size⟩ := os
      cases hv : v.cells with
      | none => simp [hpl, hv] at h
      | some ds =>
        simp only [hpl, hv] at h
        split at h
        · refine fillA_ref place rest _ cs h ?_ fun x hx => hp x (List.mem_cons_of_mem _ hx)
          have hd := cells_ref hv (hp (i, v) (by simp))
          rw [refs_le] at *
          intro x hx
          rcases List.mem_append.1 hx with hx | hx
          · rcases List.mem_append.1 hx with hx | hx
            · exact hc x (List.mem_of_mem_take hx)
            · exact hd x hx
          · exact hc x (List.mem_of_mem_drop hx)
        · cases h

theorem run_places : ∀ (fs : List Field) (ps : List (Nat × Nat)), placesOf P fs = some ps → ∀ w, (fs.mapM (m := Sem) fun f => do pure (f.offset, ← sizeOf f.type)).run P w = .ok ps w
  | [], ps, h, w => by
    simp only [placesOf, List.mapM_nil] at h
    cases h
    simp
  | f :: fs, ps, h, w => by
    simp only [placesOf, List.mapM_cons] at h
    cases hs : sizeOfT P f.type with
    | none => simp [hs] at h
    | some k =>
      cases hr : placesOf P fs with
      | none => simp only [placesOf] at hr; simp [hs, hr] at h
      | some qs =>
        have ih := run_places fs qs hr w
        simp only [placesOf] at hr
        simp [hs, hr] at h
        subst h
        simp only [bind_pure_comp] at ih
        simp [List.mapM_cons, run_sizeOf hs, ih]

/-- What the operation gives, told in one word. -/
abbrev Gives (P : Program) (E : Env) (a : Act) (o : Oper) (v : AV) : Prop := ∀ w, (execOp a.eval o).run P w = .ok (.value (v.conc E)) w

theorem gives_intOp {op : BinOp} {k : IntKind} {mk : Value → SV} {x y : Int} {v : AV} (hmk : ∀ v, (mk v).conc E = v) (hm0 : ∀ v, (mk v).ref = 0) (h : (intOp op k mk x y).gives v) (hc : cmpOp op x y = none) (w : World) :
    (binOp op 0 (.int k x) (.int k y)).run P w = .ok (v.conc E) w ∧ v.ref = 0 := by
  unfold intOp at h
  cases op <;> simp only [R.gives] at h <;> (try (cases h; done)) <;> (try (simp [cmpOp] at hc; done))
  case add => subst h; simp [binOp, Op.intArith, AV.conc, EV.conc, hmk, AV.ref, EV.ref, hm0]
  case sub => subst h; simp [binOp, Op.intArith, AV.conc, EV.conc, hmk, AV.ref, EV.ref, hm0]
  case mul => subst h; simp [binOp, Op.intArith, AV.conc, EV.conc, hmk, AV.ref, EV.ref, hm0]
  case quo => obtain ⟨h0, rfl⟩ := h; simp [binOp, Op.intDiv, h0, AV.conc, EV.conc, hmk, AV.ref, EV.ref, hm0]
  case rem => obtain ⟨h0, rfl⟩ := h; simp [binOp, Op.intDiv, h0, AV.conc, EV.conc, hmk, AV.ref, EV.ref, hm0]

theorem binOp_int_type (op : BinOp) (t t' : TypeId) (k : IntKind) (x y : Int) : binOp op t (.int k x) (.int k y) = binOp op t' (.int k x) (.int k y) := by
  cases op <;> simp [binOp]

theorem run_cmp {op : BinOp} {k : IntKind} {x y : Int} {r : Bool} (h : cmpOp op x y = some r) (t : TypeId) (w : World) : (binOp op t (.int k x) (.int k y)).run P w = .ok (.bool r) w := by
  cases op <;> simp only [cmpOp, Option.some.injEq] at h <;> (try (cases h; done)) <;> subst h <;> simp [binOp, Op.intCmp]

theorem gives_int2 {op : BinOp} {st : Bool} {k k' : IntKind} {x y : Int} {v : AV} (h : (int2 op st k k' x y).gives v) (t : TypeId) (w : World) :
    k = k' ∧ (binOp op t (.int k x) (.int k' y)).run P w = .ok (v.conc E) w ∧ v.ref = 0 := by
  unfold int2 at h
  split at h
  · rename_i hk
    subst hk
    refine ⟨rfl, ?_⟩
    cases hc : cmpOp op x y with
    | some r =>
      rw [hc] at h
      rw [run_cmp hc]
      cases st <;> simp only [Bool.false_eq_true, if_false, if_true, R.gives] at h <;> subst h <;> simp [AV.conc, EV.conc, SV.conc, AV.ref, EV.ref, SV.ref]
    | none =>
      rw [hc] at h
      rw [binOp_int_type op t 0]
      refine gives_intOp (mk := if st then SV.c else SV.d) ?_ ?_ h hc w
      · intro v; cases st <;> rfl
      · intro v; cases st <;> rfl
  · cases h

theorem num_conc {x : SV} {k : IntKind} {m : Int} (h : x.num = some (k, m)) : x.conc E = .int k m := by
  unfold SV.num at h
  split at h <;> simp_all [SV.conc]

theorem eqCells_len : ∀ {xs ys : List SV} {r : Bool}, eqCells xs ys = some r → xs.length = ys.length
  | [], [], _, _ => rfl
  | [], _ :: _, _, h => by simp [eqCells] at h
  | _ :: _, [], _, h => by simp [eqCells] at h
  | x :: xs, y :: ys, r, h => by
    simp only [eqCells] at h
    cases hx : x.num with
    | none => simp [hx] at h
    | some p => cases hy : y.num with
      | none => simp [hx, hy] at h
      | some q =>
        obtain ⟨k, a⟩ := p
        obtain ⟨k', b⟩ := q
        simp only [hx, hy] at h
        split at h
        · obtain ⟨r', hr, _⟩ := Option.map_eq_some_iff.1 h
          simp [eqCells_len hr]
        · cases h

theorem run_part_int {t : TypeId} (ht : intT P t = true) {cs : Array Value} {i : Nat} {v : Value} (h : cs[i]? = some v) (w : World) : (part t cs i).run P w = .ok v w := by
  have ha : aggT P t = some false := by
    unfold intT at ht
    unfold aggT
    cases hu : P.underlying t with
    | none => simp [hu] at ht
    | some d => cases d <;> simp_all
  simp [part, run_isAgg ha, h]

theorem run_eqFields (d : Nat) (xs ys : List SV) : ∀ (fs : List Field) (j : Nat) (r : Bool), flatFields P fs j = true → eqCells (xs.drop j) (ys.drop j) = some r → (xs.drop j).length = fs.length → ∀ w,
    (Op.eqFields (d + 1) (xs.map (SV.conc E)).toArray (ys.map (SV.conc E)).toArray fs).run P w = .ok r w
  | [], j, r, _, he, hl, w => by
    have hx : xs.drop j = [] := List.eq_nil_of_length_eq_zero (by simpa using hl)
    have hy : ys.drop j = [] := List.eq_nil_of_length_eq_zero (by rw [← eqCells_len he, hx]; rfl)
    rw [hx, hy] at he
    simp only [eqCells, Option.some.injEq] at he
    subst he
    simp [Op.eqFields]
  | f :: fs, j, r, hf, he, hl, w => by
    simp only [flatFields, Bool.and_eq_true, bne_iff_ne, ne_eq, beq_iff_eq] at hf
    obtain ⟨⟨⟨h1, h2⟩, h3⟩, h4⟩ := hf
    cases hx : xs.drop j with
    | nil => rw [hx] at hl; simp at hl
    | cons x xs' =>
      cases hy : ys.drop j with
      | nil => rw [hx, hy] at he; simp [eqCells] at he
      | cons y ys' =>
        have hx' : xs.drop (j + 1) = xs' := by rw [← List.drop_drop, hx]; rfl
        have hy' : ys.drop (j + 1) = ys' := by rw [← List.drop_drop, hy]; rfl
        rw [hx, hy] at he
        rw [hx] at hl
        simp only [eqCells] at he
        cases hxn : x.num with
        | none => simp [hxn] at he
        | some p => cases hyn : y.num with
          | none => simp [hxn, hyn] at he
          | some q =>
            obtain ⟨k, a⟩ := p
            obtain ⟨k', b⟩ := q
            simp only [hxn, hyn] at he
            split at he
            · rename_i hk
              subst hk
              obtain ⟨r', hr, hrr⟩ := Option.map_eq_some_iff.1 he
              have ex : (xs.map (SV.conc E)).toArray[j]? = some (.int k a) := by
                have : xs[j]? = some x := by rw [← List.head?_drop, hx]; rfl
                simp [this, num_conc hxn]
              have ey : (ys.map (SV.conc E)).toArray[j]? = some (.int k b) := by
                have : ys[j]? = some y := by rw [← List.head?_drop, hy]; rfl
                simp [this, num_conc hyn]
              have ih := run_eqFields d xs ys fs (j + 1) r' h4 (by rw [hx', hy']; exact hr) (by rw [hx']; simpa using hl) w
              have hu : ∃ q, P.underlying f.type = some (.int q) := by
                unfold intT at h3
                cases hu : P.underlying f.type with
                | none => simp [hu] at h3
                | some d => cases d <;> simp_all
              obtain ⟨q, hu⟩ := hu
              subst hrr
              simp only [Op.eqFields, ne_eq, h1, not_false_eq_true, if_true, h2, Sem.run_bind, run_part_int h3 ex, run_part_int h3 ey, Result.andThen_ok, run_equalIn_int w d f.type k q a b hu]
              cases hab : a == b <;> simp [ih]
            · cases he

theorem flat_conds {t : TypeId} {m : Nat} (h : flatT P t m = true) : ∃ fs, P.underlying t = some (.struct fs) ∧ fs.toList.length = m ∧ flatFields P fs.toList 0 = true ∧ P.eqGuardType P.depth t = false ∧ P.stoodInHeld t = false := by
  unfold flatT at h
  cases hu : P.underlying t with
  | none => simp [hu] at h
  | some d =>
    cases d <;> simp only [hu] at h <;> try (cases h; done)
    rename_i fs
    simp only [Bool.and_eq_true, beq_iff_eq, Bool.not_eq_true'] at h
    exact ⟨fs, rfl, h.1.1.1, h.1.1.2, h.1.2, h.2⟩

theorem run_eqFlat {t : TypeId} {xs ys : List SV} {r : Bool} (ht : flatT P t xs.length = true) (he : eqCells xs ys = some r) (w : World) :
    (Op.equalIn 10000 t (.agg (xs.map (SV.conc E)).toArray) (.agg (ys.map (SV.conc E)).toArray)).run P w = .ok r w := by
  obtain ⟨fs, hu, hl, hf, _, hs⟩ := flat_conds ht
  have hfo : P.fieldsOf t = fs := by unfold Program.fieldsOf; rw [hu]
  rw [run_equalIn_agg w 9999 t _ _ (by rw [hfo]; exact hu) hs, hfo]
  exact run_eqFields 9998 xs ys fs.toList 0 r hf (by simpa using he) (by simpa using hl.symm) w

/-- A test for equality, guard and all. -/
abbrev RunBin (P : Program) (op : BinOp) (t : TypeId) (ox oy : Operand) (x y v : Value) : Prop :=
  ∀ w, (do eqGuard op t ox oy x y; binOp op t x y : Sem Value).run P w = .ok v w

theorem runBin_int {op : BinOp} {t : TypeId} {ox oy : Operand} {k k' : IntKind} {x y : Int} {v : Value} (h : ∀ w, (binOp op t (.int k x) (.int k' y)).run P w = .ok v w) : RunBin P op t ox oy (.int k x) (.int k' y) v := by
  intro w
  cases op <;> simp [eqGuard, h]

theorem run_eqPtr (d : Nat) {t e : TypeId} (hu : P.underlying t = some (.pointer e)) (x : Addr) (w : World) : (Op.equalIn (d + 1) t (.pointer (some x)) (.pointer none)).run P w = .ok false w := by
  simp [Op.equalIn, run_underlying hu]

theorem run_eqNil (d : Nat) {t e : TypeId} (hu : P.underlying t = some (.pointer e)) (w : World) : (Op.equalIn (d + 1) t (.pointer none) (.pointer none)).run P w = .ok true w := by
  simp [Op.equalIn, run_underlying hu]

theorem runBin_of {neg : Bool} {t : TypeId} {x y : Value} {r : Bool} (h : ∀ w, (Op.equalIn 10000 t x y).run P w = .ok r w) (ox oy : Operand)
    (hg : ∀ op w, (eqGuard op t ox oy x y).run P w = .ok () w) (he : binOp .eql t x y = do pure (.bool (← Op.equal t x y))) (hn : binOp .neq t x y = do pure (.bool (!(← Op.equal t x y)))) :
    RunBin P (if neg then .neq else .eql) t ox oy x y (.bool (if neg then !r else r)) := by
  intro w
  have h' : ∀ w, (Op.equal t x y).run P w = .ok r w := h
  cases neg
  · simp only [Bool.false_eq_true, if_false, Sem.run_bind, hg, Result.andThen_ok, he, h', Sem.run_pure]
  · simp only [if_true, Sem.run_bind, hg, Result.andThen_ok, hn, h', Sem.run_pure]

theorem gives_eqOp {op : BinOp} {neg : Bool} (hop : op = if neg then .neq else .eql) {t : TypeId} {x y v : AV} (h : (eqOp P t neg x y).gives v) (ox oy : Operand) :
    RunBin P op t ox oy (x.conc E) (y.conc E) (v.conc E) ∧ v.ref = 0 := by
  subst hop
  unfold eqOp at h
  split at h
  · split at h
    · rename_i a b _ hc
      have hu : P.underlying t = some .bool := by
        cases hu : P.underlying t with
        | none => simp [hu] at hc
        | some d => cases d <;> simp_all
      subst h
      have h1 := runBin_of (P := P) (neg := neg) (fun w => run_equalIn_bool' w 9999 t a b hu) ox oy (fun op w => by cases op <;> simp [eqGuard]) (by simp [binOp]) (by simp [binOp])
      exact ⟨h1, rfl⟩
    · cases h
  · split at h
    · rename_i l o _ _ hc
      obtain ⟨e, hu⟩ : ∃ e, P.underlying t = some (.pointer e) := by
        cases hu : P.underlying t with
        | none => simp [hu] at hc
        | some d => cases d <;> simp_all
      subst h
      have h1 := runBin_of (P := P) (neg := neg) (fun w => run_eqPtr 9999 hu ⟨E.blk l, o, none⟩ w) ox oy (fun op w => by cases op <;> simp [eqGuard]) (by simp [binOp]) (by simp [binOp])
      refine ⟨?_, rfl⟩
      cases neg <;> exact h1
    · cases h
  · split at h
    · rename_i hc
      obtain ⟨e, hu⟩ : ∃ e, P.underlying t = some (.pointer e) := by
        cases hu : P.underlying t with
        | none => simp [hu] at hc
        | some d => cases d <;> simp_all
      subst h
      have h1 := runBin_of (P := P) (neg := neg) (fun w => run_eqNil 9999 hu w) ox oy (fun op w => by cases op <;> simp [eqGuard]) (by simp [binOp]) (by simp [binOp])
      refine ⟨?_, rfl⟩
      cases neg <;> exact h1
    · cases h
  · split at h
    · rename_i xs ys hf
      split at h
      · rename_i r hr
        have h1 := fun w => run_eqFlat (E := E) hf hr w
        obtain ⟨_, _, _, _, hg, _⟩ := flat_conds hf
        simp only [R.gives] at h
        subst h
        exact ⟨runBin_of h1 ox oy (fun op w => run_eqGuard_agg w op t ox oy _ _ hg) (by simp [binOp]) (by simp [binOp]), rfl⟩
      · cases h
    · cases h
  · cases h

theorem gives_binA {op : BinOp} {t : TypeId} {x y v : AV} (h : (binA P op t x y).gives v) (ox oy : Operand) :
    RunBin P op t ox oy (x.conc E) (y.conc E) (v.conc E) ∧ v.ref = 0 := by
  unfold binA at h
  split at h
  · exact ⟨runBin_int fun w => (gives_int2 h t w).2.1, (gives_int2 (P := P) (E := E) h t default).2.2⟩
  · exact ⟨runBin_int fun w => (gives_int2 h t w).2.1, (gives_int2 (P := P) (E := E) h t default).2.2⟩
  · exact ⟨runBin_int fun w => (gives_int2 h t w).2.1, (gives_int2 (P := P) (E := E) h t default).2.2⟩
  · exact ⟨runBin_int fun w => (gives_int2 h t w).2.1, (gives_int2 (P := P) (E := E) h t default).2.2⟩
  · split at h
    · exact gives_eqOp rfl h ox oy
    · exact gives_eqOp (neg := true) rfl h ox oy
    · cases h

end
end Go.Proofs.Ythckkoledhjmeaa.Ev
