/-
  The abstract evaluator: what a heap stands for; operations that read it.
-/
import Derived.Test.YthckkoledhjmeaaEvD
namespace Go.Proofs.Ythckkoledhjmeaa.Ev
open Go

/-- A row of the call's own. -/
structure RowR (E : Env) (w : World) (l ty k n : Nat) (g : Nat → List Value) : Prop where
  pos : 0 < k
  nil : E.nil l = true → n = 0
  cap : E.nil l = false → n ≤ E.cap l
  mem : E.nil l = false → ∃ vs : Array Value, w.heap[E.blk l]? = some (.cells vs ty (0, 0)) ∧ (0 < E.cap l → E.base l + E.cap l * k ≤ vs.size) ∧ ∀ i, i < n → ∀ j, j < k → vs[E.base l + i * k + j]? = (g i)[j]?
  len : ∀ i, i < n → (g i).length = k
  one : ∀ i, i < n → ∀ v ∈ g i, v.oneCell' = true

/-- A row that is only read. -/
structure RoR (E : Env) (w : World) (l k n : Nat) (g : Nat → List Value) : Prop where
  pos : 0 < k
  nil : E.nil l = true → n = 0
  cap : E.nil l = false → n ≤ E.cap l
  mem : E.nil l = false → E.blk l < w.heap.size ∧ ∀ i, i < n → ∀ j, j < k → w.cell? ⟨E.blk l, E.base l + i * k + j, none⟩ = (g i)[j]?
  len : ∀ i, i < n → (g i).length = k
  one : ∀ i, i < n → ∀ v ∈ g i, v.oneCell' = true

/-- The map's entries are these packets, under their numbers; no two were born at once. -/
structure MapR (es : List Pkt) (ents : Array MapEntry) (clock : Nat) : Prop where
  kv : ents.toList.map (fun e => (e.key, e.val)) = es.map fun p => (Value.int .u64 p.seq, Value.agg p.vals.toArray)
  born : (ents.toList.map (·.born)).Nodup
  young : ∀ e ∈ ents.toList, e.born < clock

def BRep (E : Env) (w : World) (l : Nat) : AB → Prop
  | .cells ty cs => w.heap[E.blk l]? = some (.cells (cs.map (SV.conc E)).toArray ty (0, 0))
  | .row ty k n g => RowR E w l ty k n g
  | .lit ty k ch => RowR E w l ty k ch.length (fun j => ch.getD j [])
  | .ro k n g => RoR E w l k n g
  | .pm es => ∃ ents clock, w.heap[E.blk l]? = some (.map ents clock) ∧ MapR es ents clock
  | .dead => True

def AB.own (nil : Bool) : AB → Bool
  | .cells _ _ => true
  | .row .. => !nil
  | .lit .. => !nil
  | .ro .. => false
  | .pm _ => true
  | .dead => false

def BOk (E : Env) (n : Nat) : AB → Prop
  | .cells _ cs => refs cs ≤ n ∧ ∀ x ∈ cs, x.ok E
  | _ => True

def Im (E : Env) (H : Heap) (b : Nat) : Prop := ∃ (l : Nat) (B : AB), H[l]? = some B ∧ B.own (E.nil l) = true ∧ E.blk l = b

structure HRep (E : Env) (H : Heap) (w : World) : Prop where
  rep : ∀ (l : Nat) (B : AB), H[l]? = some B → BRep E w l B
  ok : ∀ (l : Nat) (B : AB), H[l]? = some B → BOk E H.length B
  inj : ∀ (l l' : Nat) (B B' : AB), H[l]? = some B → H[l']? = some B' → B.own (E.nil l) = true → B'.own (E.nil l') = true → E.blk l = E.blk l' → l = l'
  ro : ∀ (l k n : Nat) (g : Nat → List Value), H[l]? = some (.ro k n g) → E.nil l = false → ¬ Im E H (E.blk l)

section
variable {P : Program} {E : Env} {n : Nat} {fr : List AV} {a : Act} {w : World}

theorem BRep.lt {l : Nat} {B : AB} (h : BRep E w l B) (ho : B.own (E.nil l) = true) : E.blk l < w.heap.size := by
  cases B <;> simp only [AB.own] at ho <;> try (cases ho; done)
  case cells ty cs => exact (Array.getElem?_eq_some_iff.1 h).1
  case row ty k m g => obtain ⟨vs, hv, _⟩ := h.mem (by simpa using ho); exact (Array.getElem?_eq_some_iff.1 hv).1
  case lit ty k ch => obtain ⟨vs, hv, _⟩ := RowR.mem h (by simpa using ho); exact (Array.getElem?_eq_some_iff.1 hv).1
  case pm es => obtain ⟨_, _, hv, _⟩ := h; exact (Array.getElem?_eq_some_iff.1 hv).1

theorem Im.lt {H : Heap} (h : HRep E H w) {b : Nat} (hb : Im E H b) : b < w.heap.size := by
  obtain ⟨l, B, hl, ho, rfl⟩ := hb
  exact (h.rep l B hl).lt ho

theorem RowR.kept {w' : World} {l ty k m : Nat} {g : Nat → List Value} (h : RowR E w l ty k m g) (hw : E.nil l = false → w'.heap[E.blk l]? = w.heap[E.blk l]?) : RowR E w' l ty k m g :=
  ⟨h.pos, h.nil, h.cap, fun hn => by rw [hw hn]; exact h.mem hn, h.len, h.one⟩

theorem RoR.kept {w' : World} {l k m : Nat} {g : Nat → List Value} (h : RoR E w l k m g) (hw : E.nil l = false → w'.heap[E.blk l]? = w.heap[E.blk l]?) : RoR E w' l k m g :=
  ⟨h.pos, h.nil, h.cap, fun hn => by
    obtain ⟨h1, h2⟩ := h.mem hn
    refine ⟨?_, fun i hi j hj => ?_⟩
    · have := hw hn
      rw [Array.getElem?_eq_getElem h1] at this
      exact (Array.getElem?_eq_some_iff.1 this).1
    · rw [← h2 i hi j hj]
      simp only [World.cell?, hw hn], h.len, h.one⟩

/-- What a block holds is told by its memory alone. -/
theorem BRep.kept {w' : World} {l : Nat} {B : AB} (h : BRep E w l B) (hw : B.own (E.nil l) = true ∨ (∃ k m g, B = .ro k m g) ∧ E.nil l = false → w'.heap[E.blk l]? = w.heap[E.blk l]?) : BRep E w' l B := by
  cases B with
  | cells ty cs => simp only [BRep] at h ⊢; rw [hw (.inl rfl)]; exact h
  | row ty k m g => exact RowR.kept h fun hn => hw (.inl (by simp [AB.own, hn]))
  | lit ty k ch => exact RowR.kept h fun hn => hw (.inl (by simp [AB.own, hn]))
  | ro k m g => exact RoR.kept h fun hn => hw (.inr ⟨⟨k, m, g, rfl⟩, hn⟩)
  | pm es => obtain ⟨e, c, h1, h2⟩ := h; exact ⟨e, c, by rw [hw (.inl rfl)]; exact h1, h2⟩
  | dead => trivial

theorem RowR.agree {E' : Env} {l ty k m : Nat} {g : Nat → List Value} (h : RowR E w l ty k m g) (h1 : E'.blk l = E.blk l) (h2 : E'.base l = E.base l) (h3 : E'.cap l = E.cap l) (h4 : E'.nil l = E.nil l) : RowR E' w l ty k m g :=
  ⟨h.pos, by rw [h4]; exact h.nil, by rw [h4, h3]; exact h.cap, by rw [h4, h1, h2, h3]; exact h.mem, h.len, h.one⟩

theorem BRep.agree {E' : Env} {n l : Nat} {B : AB} (hE : Env.Agree n E E') (hl : l < n) (hB : BOk E n B) (h : BRep E w l B) : BRep E' w l B := by
  cases B with
  | cells ty cs => simp only [BRep] at h ⊢; rw [hE.blk l hl, SV.map_agree hE hB.1]; exact h
  | row ty k m g => exact RowR.agree h (hE.blk l hl) (hE.base l hl) (hE.cap l hl) (hE.nil l hl)
  | lit ty k ch => exact RowR.agree h (hE.blk l hl) (hE.base l hl) (hE.cap l hl) (hE.nil l hl)
  | ro k m g =>
    have h1 := hE.blk l hl
    have h2 := hE.base l hl
    have h3 := hE.cap l hl
    have h4 := hE.nil l hl
    exact ⟨h.pos, by rw [h4]; exact h.nil, by rw [h4, h3]; exact h.cap, by rw [h4, h1, h2]; exact h.mem, h.len, h.one⟩
  | pm es => obtain ⟨e, c, h1, h2⟩ := h; exact ⟨e, c, by rw [hE.blk l hl]; exact h1, h2⟩
  | dead => trivial

theorem BOk.agree {E' : Env} {n n' : Nat} {B : AB} (hE : Env.Agree n E E') (hn : n ≤ n') (hB : BOk E n B) : BOk E' n' B := by
  cases B <;> try trivial
  exact ⟨Nat.le_trans hB.1 hn, fun x hx => SV.ok_agree hE (refs_le.1 hB.1 x hx) (hB.2 x hx)⟩

/-! ### Reading -/

theorem run_loadVar_at {t : TypeId} {s : Nat} {cs : List Value} (ha : aggT P t = some true) (hs : sizeOfT P t = some s) (b o : Nat) (hl : cs.length = s) (hc : ∀ j v, cs[j]? = some v → w.cell? ⟨b, o + j, none⟩ = some v) :
    (loadVar t ⟨b, o, none⟩).run P w = .ok (.agg cs.toArray) w := by
  have h1 := run_loadCells_list (P := P) w ⟨b, o, none⟩ cs (fun j v hj => by rw [add_lit]; exact hc j v hj)
  rw [hl] at h1
  simp [loadVar, run_isAgg ha, run_sizeOf hs, h1]

theorem run_loadVar_one {t : TypeId} {v : Value} (ha : aggT P t = some false) (b o : Nat) (hc : w.cell? ⟨b, o, none⟩ = some v) :
    (loadVar t ⟨b, o, none⟩).run P w = .ok v w := by
  simp [loadVar, run_isAgg ha, hc]

theorem row_lt {t : TypeId} {m k i o : Nat} {g : Nat → List Value} {v : AV} (h : (rowLoad P t m g k i o).gives v) : i < m := by
  unfold rowLoad at h
  split at h
  · split at h
    · exact h.1
    · cases h
  · split at h
    · exact h.1
    · cases h
  · cases h

theorem row_run {t : TypeId} {m k i o : Nat} {g : Nat → List Value} {v : AV} (h : (rowLoad P t m g k i o).gives v) (b base : Nat) (hlen : ∀ i, i < m → (g i).length = k)
    (hm : ∀ i, i < m → ∀ j, j < k → w.cell? ⟨b, base + i * k + j, none⟩ = (g i)[j]?) :
    (loadVar t ⟨b, base + i * k + o, none⟩).run P w = .ok (v.conc E) w ∧ v.ref = 0 ∧ v.ok E := by
  unfold rowLoad at h
  split at h
  · rename_i s ha hs
    split at h
    · rename_i hos
      simp only [R.gives] at h
      obtain ⟨hi, rfl⟩ := h
      have hg := hlen i hi
      refine ⟨?_, ?_, ?_⟩
      · have hl := run_loadVar_at (P := P) (w := w) (cs := ((g i).drop o).take s) ha hs b (base + i * k + o) (by rw [List.length_take, List.length_drop]; omega) (fun j u hj => by
          have hj2 : j < s := by
            have := (List.getElem?_eq_some_iff.1 hj).1
            rw [List.length_take] at this; omega
          rw [List.getElem?_take_of_lt hj2, List.getElem?_drop] at hj
          have := hm i hi (o + j) (by omega)
          rw [hj] at this
          rw [← this, Nat.add_assoc (base + i * k)])
        rw [hl]
        simp only [AV.conc, EV.conc, ← List.map_drop, ← List.map_take, List.map_map]
        have hid : (SV.conc E ∘ SV.d) = id := rfl
        rw [hid, List.map_id]
      · show refs _ = 0
        have : refs ((((g i).map SV.d).drop o).take s) ≤ 0 := by
          rw [refs_le]
          intro x hx
          have hx := List.mem_of_mem_drop (List.mem_of_mem_take hx)
          obtain ⟨y, _, rfl⟩ := List.mem_map.1 hx
          exact Nat.le_refl 0
        omega
      · intro x hx
        have hx := List.mem_of_mem_drop (List.mem_of_mem_take hx)
        obtain ⟨y, _, rfl⟩ := List.mem_map.1 hx
        trivial
    · cases h
  · rename_i s ha hs
    split at h
    · rename_i hok
      simp only [R.gives] at h
      obtain ⟨hi, h⟩ := h
      have hg := hlen i hi
      have hcell := hm i hi o hok
      cases hu : (g i)[o]? with
      | none => rw [List.getElem?_eq_none_iff] at hu; omega
      | some u =>
        rw [hu] at hcell
        have hrun := run_loadVar_one (P := P) ha b (base + i * k + o) hcell
        simp only [List.getElem?_map, hu, Option.map_some] at h
        split at h
        · rename_i t' heq
          simp only [Option.some.injEq, SV.d.injEq] at heq
          subst heq
          simp only [R.gives] at h
          subst h
          exact ⟨hrun, rfl, ok_s.2 trivial⟩
        · rename_i u' _ heq
          simp only [Option.some.injEq] at heq
          subst heq
          simp only [R.gives] at h
          subst h
          exact ⟨hrun, rfl, ok_s.2 trivial⟩
        · cases h
    · cases h
  · cases h

theorem load_run {t : TypeId} {x : SV} {l : Nat} {B : AB} {v : AV} (hx : (∃ o, x = .ptr l o) ∨ ∃ k i o, x = .rp l k i o) (h : (loadA P t x B).gives v) (hB : BRep E w l B) (hok : BOk E n B) :
    (Instr.loadAt t (x.conc E)).run P w = .ok (v.conc E) w ∧ v.ref ≤ n ∧ v.ok E := by
  have rowR : ∀ {ty k m l' i o : Nat} {g : Nat → List Value}, RowR E w l' ty k m g → (rowLoad P t m g k i o).gives v → (Instr.loadAt t ((SV.rp l' k i o).conc E)).run P w = .ok (v.conc E) w ∧ v.ref ≤ n ∧ v.ok E := by
    intro ty k m l' i o g hB h
    have hnil : E.nil l' = false := by
      cases hn : E.nil l' with
      | false => rfl
      | true => have := hB.nil hn; have := row_lt h; omega
    obtain ⟨vs, hv, _, hm⟩ := hB.mem hnil
    obtain ⟨h1, h2, h3⟩ := row_run (P := P) (E := E) (w := w) h (E.blk l') (E.base l') hB.len (fun i hi j hj => by rw [← hm i hi j hj]; simp [World.cell?, hv])
    refine ⟨?_, by omega, h3⟩
    simp only [Instr.loadAt, SV.conc, Instr.sureAddr, Sem.run_bind, Sem.run_pure, Result.andThen_ok, h1]
  unfold loadA at h
  split at h
  · rename_i l' o ty cs
    have hl : l' = l := by rcases hx with ⟨_, hx⟩ | ⟨_, _, _, hx⟩ <;> cases hx; rfl
    subst hl
    have hcell : ∀ j u, cs[j]? = some u → w.cell? ⟨E.blk l', j, none⟩ = some (u.conc E) := by
      intro j u hj
      simp only [BRep] at hB
      simp [World.cell?, hB, hj]
    split at h
    · rename_i s ha hs
      split at h
      · rename_i hos
        simp only [R.gives] at h
        subst h
        refine ⟨?_, ref_take hok.1 _ _, ok_take hok.2 _ _⟩
        have hl := run_loadVar_at (P := P) (w := w) (cs := ((cs.drop o).take s).map (SV.conc E)) ha hs (E.blk l') o (by rw [List.length_map, List.length_take, List.length_drop]; omega) (fun j u hj => by
          rw [List.getElem?_map] at hj
          obtain ⟨y, hy, rfl⟩ := Option.map_eq_some_iff.1 hj
          have hj2 : j < s := by
            have := (List.getElem?_eq_some_iff.1 hy).1
            rw [List.length_take] at this; omega
          rw [List.getElem?_take_of_lt hj2, List.getElem?_drop] at hy
          exact hcell _ _ hy)
        simp only [Instr.loadAt, SV.conc, Instr.sureAddr, Sem.run_bind, Sem.run_pure, Result.andThen_ok, hl]
        rfl
      · cases h
    · rename_i s ha hs
      split at h
      · rename_i t' hc
        simp only [R.gives] at h
        subst h
        have hl := run_loadVar_one (P := P) ha (E.blk l') o (hcell _ _ hc)
        refine ⟨?_, Nat.zero_le _, ok_s.2 trivial⟩
        simp only [Instr.loadAt, SV.conc, Instr.sureAddr, Sem.run_bind, Sem.run_pure, Result.andThen_ok, hl]
        rfl
      · rename_i u _ hc
        simp only [R.gives] at h
        subst h
        have hl := run_loadVar_one (P := P) ha (E.blk l') o (hcell _ _ hc)
        refine ⟨?_, refs_le.1 hok.1 u (List.mem_of_getElem? hc), ok_s.2 (hok.2 u (List.mem_of_getElem? hc))⟩
        simp only [Instr.loadAt, SV.conc, Instr.sureAddr, Sem.run_bind, Sem.run_pure, Result.andThen_ok, hl]
        rfl
      · cases h
    · cases h
  · rename_i l' k' i o ty k m g
    have hl : l' = l := by rcases hx with ⟨_, hx⟩ | ⟨_, _, _, hx⟩ <;> cases hx; rfl
    subst hl
    split at h
    · rename_i hk
      subst hk
      exact rowR hB h
    · cases h
  · rename_i l' k' i o k m g
    have hl : l' = l := by rcases hx with ⟨_, hx⟩ | ⟨_, _, _, hx⟩ <;> cases hx; rfl
    subst hl
    split at h
    · rename_i hk
      subst hk
      have hB : RoR E w l' k' m g := hB
      have hnil : E.nil l' = false := by
        cases hn : E.nil l' with
        | false => rfl
        | true => have := hB.nil hn; have := row_lt h; omega
      obtain ⟨_, hm⟩ := hB.mem hnil
      obtain ⟨h1, h2, h3⟩ := row_run (P := P) (E := E) h (E.blk l') (E.base l') hB.len hm
      refine ⟨?_, by omega, h3⟩
      simp only [Instr.loadAt, SV.conc, Instr.sureAddr, Sem.run_bind, Sem.run_pure, Result.andThen_ok, h1]
    · cases h
  · rename_i l' k' i o ty k ch
    have hl : l' = l := by rcases hx with ⟨_, hx⟩ | ⟨_, _, _, hx⟩ <;> cases hx; rfl
    subst hl
    split at h
    · rename_i hk
      subst hk
      exact rowR (g := fun j => ch.getD j []) hB h
    · cases h
  · cases h

theorem read_gives (hf : FRep E n fr a) (o : Oper) {l : Nat} {r : AB → R} {B : AB} {v : AV} (hr : readA P fr o.op = .at l r) (h : (r B).gives v) (hB : BRep E w l B) (hok : BOk E n B) :
    (execOp a.eval o).run P w = .ok (.value (v.conc E)) w ∧ v.ref ≤ n ∧ v.ok E := by
  obtain ⟨dst, op, ty, pos, after, guard⟩ := o
  cases op <;> simp only [readA] at hr <;> try (cases hr; done)
  case load t x =>
    split at hr
    · rename_i l' o' hx
      cases hr
      obtain ⟨h1, h2, h3⟩ := load_run (P := P) (.inl ⟨o', rfl⟩) h hB hok
      refine ⟨?_, h2, h3⟩
      simp only [execOp, hf.eval, hx, AV.conc, EV.conc, Sem.run_bind, h1, Result.andThen_ok, Sem.run_pure]
    · rename_i l' k i o' hx
      cases hr
      obtain ⟨h1, h2, h3⟩ := load_run (P := P) (.inr ⟨k, i, o', rfl⟩) h hB hok
      refine ⟨?_, h2, h3⟩
      simp only [execOp, hf.eval, hx, AV.conc, EV.conc, Sem.run_bind, h1, Result.andThen_ok, Sem.run_pure]
    · cases hr
  case call c =>
    obtain ⟨callee, args, argTypes⟩ := c
    cases callee <;> try (cases hr; done)
    rename_i b
    cases b <;> simp only [] at hr <;> try (cases hr; done)
    split at hr
    · rename_i l' t h1 h2
      split at hr
      · rename_i hp
        cases hr
        cases B <;> simp only [] at h <;> try (cases h; done)
        rename_i es
        simp only [R.gives] at h
        subst h
        obtain ⟨ents, clock, hb, hm⟩ := hB
        have e1 : args.map a.eval = (([AV.e (.s (.mp l))] : List AV).map (AV.conc E)).toArray := by
          rw [← h1, ← Array.toList_inj]
          simp [hf.eval]
        have e2 : argTypes = #[t] := by rw [← Array.toList_inj]; exact h2
        obtain ⟨kt, et, hu⟩ : ∃ kt et, P.underlying t = some (.map kt et) := by
          unfold pktMapT at hp
          cases hu : P.underlying t with
          | none => simp [hu] at hp
          | some d => cases d <;> simp_all
        have hlen : ents.size = es.length := by
          have := congrArg List.length hm.kv
          simpa using this
        have hgo : (getObj (E.blk l)).run P w = .ok (.map ents clock) w := by simp [getObj, Sem.run, hb]
        refine ⟨?_, Nat.zero_le _, ok_s.2 trivial⟩
        simp [execOp, resolve, e1, e2, invoke, builtin, Builtin.len_, AV.conc, EV.conc, SV.conc, run_underlying hu, hgo, goInt, hlen]
      · cases hr
    · cases hr

end
end Go.Proofs.Ythckkoledhjmeaa.Ev
