/-
  The abstract evaluator: every operation that touches no memory.
-/
import Derived.Test.YthckkoledhjmeaaEvC
namespace Go.Proofs.Ythckkoledhjmeaa.Ev
open Go

section
variable {P : Program} {E : Env} {n : Nat} {fr : List AV} {a : Act}

theorem capsOf_conc : ∀ {l : List AV} {cs : List (Nat × Nat)}, capsOf l = some cs → l.map (AV.conc E) = cs.map (fun p => Value.pointer (some ⟨E.blk p.1, p.2, none⟩)) ∧
    ((∀ x ∈ l, x.ref ≤ n) → cs.foldr (fun p n => max (p.1 + 1) n) 0 ≤ n)
  | [], cs, h => by simp only [capsOf, Option.some.injEq] at h; subst h; exact ⟨rfl, by simp⟩
  | x :: r, cs, h => by
    unfold capsOf at h
    split at h
    · rename_i heq; cases heq
    · rename_i l o r' heq
      cases heq
      obtain ⟨cs', hc, rfl⟩ := Option.map_eq_some_iff.1 h
      obtain ⟨h1, h2⟩ := capsOf_conc hc
      refine ⟨by simp [h1, AV.conc, EV.conc, SV.conc], fun hr => ?_⟩
      have h3 := h2 fun x hx => hr x (List.mem_cons_of_mem _ hx)
      have h4 := hr _ (List.mem_cons_self ..)
      simp only [AV.ref, EV.ref, SV.ref] at h4
      simp only [List.foldr_cons]
      omega
    · cases h

theorem ok_s {x : SV} : (AV.e (.s x)).ok E ↔ x.ok E := by
  constructor
  · intro h; exact h x (by simp [AV.svs, EV.svs])
  · intro h y hy; simp only [AV.svs, EV.svs, List.mem_singleton] at hy; subst hy; exact h

theorem ok_agg {cs : List SV} : (AV.e (.agg cs)).ok E ↔ ∀ x ∈ cs, x.ok E := Iff.rfl

theorem add_lit (b o m : Nat) : (⟨b, o, none⟩ : Addr).add m = ⟨b, o + m, none⟩ := by unfold Addr.add; split <;> simp_all

theorem bound_run (k : IntKind) (i : Int) (y : Nat) (code : BoundsCode) (h0 : 0 ≤ i) (h1 : i ≤ y) (w : World) : (Instr.sliceBound (.int k i) y code).run P w = .ok i.toNat w := by
  simp [Instr.sliceBound, asIntOf, h0, h1]

theorem gives_slice {t e : TypeId} (ht : P.underlying t = some (.slice e)) {l k i m z : Nat} {lo hi : Int} {v : AV} (h : (sliceA l k i m z lo hi).gives v) (vlo vhi : Option Value)
    (h1 : vlo = none ∧ lo = 0 ∨ ∃ k, vlo = some (.int k lo)) (h2 : vhi = none ∧ hi = m ∨ ∃ k, vhi = some (.int k hi)) (hs : sizeOfT P e = some k) (hok : (SV.sl l k i m z).ok E) (w : World) :
    (Instr.sliceAt t ((SV.sl l k i m z).conc E) vlo vhi none).run P w = .ok (v.conc E) w ∧ v.ref = l + 1 ∧ v.ok E := by
  simp only [sliceA, R.gives] at h
  obtain ⟨⟨ha, hb, hc⟩, rfl⟩ := h
  obtain ⟨hn1, hn2⟩ := hok
  refine ⟨?_, rfl, ok_s.2 ⟨fun hn => by have := hn1 hn; omega, fun hn => by have := hn2 hn; omega⟩⟩
  have hcap : E.nil l = false → m ≤ E.cap l - i := fun hn => by have := hn2 hn; omega
  simp only [Instr.sliceAt, Sem.run_bind, run_underlying ht, Result.andThen_ok, Instr.slice, AV.conc, EV.conc, SV.conc]
  cases hnil : E.nil l with
  | true =>
    have hm := hn1 hnil
    subst hm
    have hlo : lo = 0 := by omega
    have hhi : hi = 0 := by omega
    subst hlo hhi
    rcases h1 with ⟨rfl, _⟩ | ⟨k1, rfl⟩ <;> rcases h2 with ⟨rfl, _⟩ | ⟨k2, rfl⟩ <;>
      simp [Instr.sliceBounds, Instr.sliceBound, asIntOf, run_sizeOf hs]
  | false =>
    have hcm := hcap hnil
    have hbound : i + m ≤ E.cap l := hn2 hnil
    have key : ∀ (x y : Nat), x = lo.toNat → y = hi.toNat →
        (if E.cap l - i = x then (⟨E.blk l, E.base l + (if i = E.cap l then z else i) * k, none⟩ : Addr) else (⟨E.blk l, E.base l + (if i = E.cap l then z else i) * k, none⟩ : Addr).add (x * k)) =
          ⟨E.blk l, E.base l + (if i + lo.toNat = E.cap l then (if lo = 0 then z else i) else i + lo.toNat) * k, none⟩ := by
      rintro x y rfl rfl
      by_cases hz : lo = 0
      · subst hz
        simp only [Int.toNat_zero, Nat.add_zero, if_true, Nat.zero_mul, add_lit]
        by_cases hi0 : i = E.cap l
        · simp [hi0]
        · simp [hi0]
      · have hlt : 0 < lo.toNat := by omega
        have hine : i ≠ E.cap l := by omega
        simp only [if_neg hz, if_neg hine, add_lit]
        by_cases he : E.cap l - i = lo.toNat
        · rw [if_pos he, if_pos (by omega)]
        · rw [if_neg he, if_neg (by omega), Nat.add_mul, Nat.add_assoc]
    have hlo2 : lo ≤ ((E.cap l - i : Nat) : Int) := by omega
    have hhi2 : hi ≤ ((E.cap l - i : Nat) : Int) := by omega
    have e3 : E.cap l - i - lo.toNat = E.cap l - (i + lo.toNat) := by omega
    have hb1 : ∀ (v : Value) (k1 : IntKind) (c : BoundsCode), v = .int k1 lo → (Instr.sliceBound v hi.toNat c).run P w = .ok lo.toNat w := fun v k1 c hv => by subst hv; exact bound_run k1 lo _ c ha (by omega) w
    have hb2 : ∀ (k2 : IntKind) (c : BoundsCode), (Instr.sliceBound (.int k2 hi) (E.cap l - i) c).run P w = .ok hi.toNat w := fun k2 c => bound_run k2 hi _ c (by omega) (by omega) w
    rcases h2 with ⟨rfl, he⟩ | ⟨k2, rfl⟩
    · have e2 : hi.toNat = m := by omega
      rcases h1 with ⟨rfl, rfl⟩ | ⟨k1, rfl⟩
      · have kk := key 0 m rfl (by omega)
        simp only [Int.toNat_zero, Nat.zero_mul, Nat.add_zero] at kk
        simp [Instr.sliceBounds, run_sizeOf hs, e2, add_lit]
      · have kk := key lo.toNat m rfl (by omega)
        simp [Instr.sliceBounds, run_sizeOf hs, hb1 _ k1 _ rfl, ← e2, ← e3]
        rw [← kk]; split <;> rfl
    · rcases h1 with ⟨rfl, rfl⟩ | ⟨k1, rfl⟩
      · have kk := key 0 hi.toNat rfl rfl
        simp [Instr.sliceBounds, run_sizeOf hs, hb2]
        simp [add_lit]
      · have kk := key lo.toNat hi.toNat rfl rfl
        simp [Instr.sliceBounds, run_sizeOf hs, hb2, hb1 _ k1 _ rfl, ← e3]
        rw [← kk]; split <;> rfl

theorem gives_max {gt : Bool} {x y v : AV} (h : (maxA gt x y).gives v) (w : World) : ((if gt then Builtin.max2 else Builtin.min2) (x.conc E) (y.conc E)).run P w = .ok (v.conc E) w ∧ v.ref = 0 ∧ v.ok E := by
  unfold maxA at h
  split at h <;> first | (cases h; done) | skip
  all_goals
    simp only [R.gives] at h
    subst h
    refine ⟨?_, rfl, ok_s.2 trivial⟩
    cases gt <;> simp [AV.conc, EV.conc, SV.conc, Builtin.max2, Builtin.min2]

theorem ok_of_int {v : AV} (h : v.ref = 0) (hs : ∃ x, v = .e (.s x)) : v.ok E := by
  obtain ⟨x, rfl⟩ := hs
  cases x <;> simp only [AV.ref, EV.ref, SV.ref] at h <;> first | omega | exact ok_s.2 trivial

theorem binA_s {op : BinOp} {t : TypeId} {x y v : AV} (h : (binA P op t x y).gives v) : ∃ x, v = .e (.s x) := by
  have i2 : ∀ {st k k' a b}, (int2 op st k k' a b).gives v → ∃ x, v = .e (.s x) := by
    intro st k k' a b h
    unfold int2 at h
    split at h
    · split at h
      · split at h <;> (simp only [R.gives] at h; first | exact ⟨_, h.symm⟩ | exact ⟨_, h⟩)
      · unfold intOp at h
        split at h <;> simp only [R.gives] at h
        · exact ⟨_, h.symm⟩
        · exact ⟨_, h.symm⟩
        · exact ⟨_, h.symm⟩
        · exact ⟨_, h.2.symm⟩
        · exact ⟨_, h.2.symm⟩
    · cases h
  have ite_s : ∀ {c : Prop} [Decidable c] {r : R}, (if c then r else .bad).gives v → r.gives v := by
    intro c _ r h
    split at h
    · exact h
    · cases h
  have i3 : ∀ {neg}, (eqOp P t neg x y).gives v → ∃ x, v = .e (.s x) := by
    intro neg h
    unfold eqOp at h
    split at h
    · exact ⟨_, (ite_s h).symm⟩
    · exact ⟨_, (ite_s h).symm⟩
    · exact ⟨_, (ite_s h).symm⟩
    · have h := ite_s h
      split at h
      · exact ⟨_, h⟩
      · cases h
    · cases h
  unfold binA at h
  split at h
  · exact i2 h
  · exact i2 h
  · exact i2 h
  · exact i2 h
  · split at h
    · exact i3 h
    · exact i3 h
    · cases h

theorem ok_take {cs : List SV} (h : ∀ x ∈ cs, x.ok E) (a b : Nat) : (AV.e (.agg ((cs.drop a).take b))).ok E :=
  fun x hx => h x (List.mem_of_mem_drop (List.mem_of_mem_take hx))

theorem ref_take {cs : List SV} (h : refs cs ≤ n) (a b : Nat) : (AV.e (.agg ((cs.drop a).take b))).ref ≤ n := by
  show refs _ ≤ n
  rw [refs_le] at *
  exact fun x hx => h x (List.mem_of_mem_drop (List.mem_of_mem_take hx))

theorem conc_take (cs : List SV) (a b : Nat) : ((cs.map (SV.conc E)).toArray.extract a (a + b)) = (((cs.drop a).take b).map (SV.conc E)).toArray := by
  simp [List.extract_eq_take_drop, List.map_take, List.map_drop]

theorem fillA_ok (place : Nat → Option (Nat × Nat)) : ∀ (parts : List (Nat × AV)) (cells cs : List SV), fillA place cells parts = some cs → (∀ x ∈ cells, x.ok E) → (∀ x ∈ parts, x.2.ok E) → ∀ x ∈ cs, x.ok E
  | [], cells, cs, h, hc, _ => by
    simp only [fillA, Option.some.injEq] at h
    subst h
    exact hc
  | (i, v) :: rest, cells, cs, h, hc, hp => by
    simp only [fillA] at h
    cases hpl : place i with
    | none => simp [hpl] at h
    | some os =>
      obtain ⟨off, size⟩ := os
      cases hv : v.cells with
      | none => simp [hpl, hv] at h
      | some ds =>
        simp only [hpl, hv] at h
        split at h
        · refine fillA_ok place rest _ cs h ?_ fun x hx => hp x (List.mem_cons_of_mem _ hx)
          have hd : ∀ x ∈ ds, x.ok E := by
            have h1 := hp (i, v) (by simp)
            cases v with
            | tup vs => simp [AV.cells] at hv
            | e y => cases y with
              | s z =>
                simp only [AV.cells] at hv
                split at hv
                · simp only [Option.some.injEq] at hv
                  subst hv
                  intro x hx
                  simp only [List.mem_singleton] at hx
                  subst hx
                  exact ok_s.1 h1
                · cases hv
              | agg es =>
                simp only [AV.cells, Option.some.injEq] at hv
                subst hv
                exact h1
          intro x hx
          rcases List.mem_append.1 hx with hx | hx
          · rcases List.mem_append.1 hx with hx | hx
            · exact hc x (List.mem_of_mem_take hx)
            · exact hd x hx
          · exact hc x (List.mem_of_mem_drop hx)
        · cases h

theorem zeroOf_ok {t : TypeId} {z : List SV} (h : zeroOf P t = some z) : ∀ x ∈ z, x.ok E := by
  simp only [zeroOf, Option.map_eq_some_iff] at h
  obtain ⟨v, _, rfl⟩ := h
  intro x hx
  obtain ⟨y, _, rfl⟩ := List.mem_map.1 hx
  trivial

theorem lohi {fr : List AV} {a : Act} (hf : FRep E n fr a) (y : Operand) {j : Int} (h : asInt (opnd fr y) = some j) : ∃ k, a.eval y = .int k j := by
  rw [hf.eval]; exact asInt_conc h

set_option maxHeartbeats 1000000 in
theorem pure_gives (hf : FRep E n fr a) (o : Oper) (v : AV) (h : (pureA P fr o.op).gives v) : Gives P E a o v ∧ v.ref ≤ n ∧ v.ok E := by
  obtain ⟨dst, op, ty, pos, after, guard⟩ := o
  cases op <;> simp only [pureA] at h <;> try (cases h; done)
  case move x => subst h; exact ⟨fun w => by simp [execOp, hf.eval], hf.opnd_ref x, hf.opnd_ok x⟩
  case assign x => subst h; exact ⟨fun w => by simp [execOp, hf.eval], hf.opnd_ref x, hf.opnd_ok x⟩
  case pick c x y =>
    split at h
    · rename_i t ht
      simp only [R.gives] at h
      subst h
      refine ⟨fun w => ?_, by split <;> exact hf.opnd_ref _, by split <;> exact hf.opnd_ok _⟩
      simp only [execOp, hf.eval, ht]
      cases t <;> simp [AV.conc, EV.conc, SV.conc, asBool]
    · cases h
  case build t parts =>
    split at h
    · rename_i fs z hu hz
      split at h
      · rename_i ps hps
        split at h
        · rename_i cs hcs
          simp only [R.gives] at h
          subst h
          refine ⟨fun w => ?_, fillA_ref _ _ _ _ hcs (Nat.le_trans (zeroOf_ref hz) (Nat.zero_le _)) (fun x hx => ?_), fillA_ok _ _ _ _ hcs (zeroOf_ok hz) (fun x hx => ?_)⟩
          · obtain ⟨zv, hzv, hzc, _⟩ := run_zeroValue hz E w
            have hm := run_places fs.toList ps hps w
            obtain ⟨out, ho, hout⟩ := fill_conc (E := E) (ps[·]?) _ z cs zv.cells hcs hzc
            simp only [bind_pure_comp] at hm
            have e1 : (parts.map fun (i, x) => (i, a.eval x)).toList = (parts.toList.map fun (i, x) => (i, opnd fr x)).map fun (i, v) => (i, v.conc E) := by
              simp [hf.eval]
            have e2 : out = (cs.map (SV.conc E)).toArray := by rw [← hout]
            simp only [execOp, Instr.build, Sem.run_bind, hzv, Result.andThen_ok, run_underlying hu]
            rw [Array.mapM_eq_mapM_toList]
            simp only [bind_pure_comp, Sem.run_map, hm, Result.andThen_ok]
            rw [e1]
            simp only [List.getElem?_toArray]
            rw [ho]
            simp [e2, AV.conc, EV.conc]
          · obtain ⟨y, hy, rfl⟩ := List.mem_map.1 hx
            exact hf.opnd_ref _
          · obtain ⟨y, hy, rfl⟩ := List.mem_map.1 hx
            exact hf.opnd_ok _
        · cases h
      · cases h
    · cases h
  case nilCheck x =>
    split at h
    · rename_i l o hx
      simp only [R.gives] at h
      subst h
      refine ⟨fun w => ?_, by rw [← hx]; exact hf.opnd_ref x, by rw [← hx]; exact hf.opnd_ok x⟩
      simp [execOp, hf.eval, hx, AV.conc, EV.conc, SV.conc]
    · rename_i l k i o hx
      simp only [R.gives] at h
      subst h
      refine ⟨fun w => ?_, by rw [← hx]; exact hf.opnd_ref x, by rw [← hx]; exact hf.opnd_ok x⟩
      simp [execOp, hf.eval, hx, AV.conc, EV.conc, SV.conc]
    · cases h
  case binOp op t x y yt =>
    obtain ⟨h1, h2⟩ := gives_binA (E := E) h x y
    refine ⟨fun w => ?_, by omega, ok_of_int h2 (binA_s h)⟩
    have := h1 w
    simp only [execOp, hf.eval]
    simp only [Sem.run_bind] at this ⊢
    rw [this]
    simp
  case unOp op t x =>
    cases op <;> simp only [] at h <;> try (cases h; done)
    split at h
    · rename_i b hx
      simp only [R.gives] at h
      subst h
      exact ⟨fun w => by simp [execOp, hf.eval, hx, AV.conc, EV.conc, SV.conc, Op.unary], Nat.zero_le _, ok_s.2 trivial⟩
    · cases h
  case convert src dst x =>
    split at h
    · rename_i k0 k m h1 h2 hx
      simp only [R.gives] at h
      subst h
      exact ⟨fun w => by simp [execOp, hf.eval, hx, AV.conc, EV.conc, SV.conc, convert, run_underlying h1, run_underlying h2, Conv.intToInt], Nat.zero_le _, ok_s.2 trivial⟩
    · rename_i k0 k m h1 h2 hx
      simp only [R.gives] at h
      subst h
      exact ⟨fun w => by simp [execOp, hf.eval, hx, AV.conc, EV.conc, SV.conc, convert, run_underlying h1, run_underlying h2, Conv.intToInt], Nat.zero_le _, ok_s.2 trivial⟩
    · cases h
  case makeFunc fn first captured =>
    cases fn <;> simp only [] at h <;> try (cases h; done)
    rename_i g
    split at h
    · rename_i cs h1 h2
      simp only [R.gives] at h
      subst h
      obtain ⟨h3, h4⟩ := capsOf_conc (E := E) (n := n) h2
      have h5 := h4 fun x hx => by
        obtain ⟨y, hy, rfl⟩ := List.mem_map.1 hx
        exact hf.opnd_ref y
      have e1 : first = #[] := by rw [← Array.toList_inj]; exact h1
      have e2 : captured.map a.eval = (cs.map fun p => Value.pointer (some ⟨E.blk p.1, p.2, none⟩)).toArray := by
        rw [← h3, ← Array.toList_inj]
        simp [hf.eval]
      exact ⟨fun w => by simp [execOp, Instr.makeFunc, e1, e2, AV.conc, EV.conc, SV.conc], h5, ok_s.2 trivial⟩
    · cases h
  case slice t x lo hi mx =>
    cases mx <;> simp only [] at h <;> try (cases h; done)
    split at h
    · rename_i e l k i m z h1 hx
      split at h
      · rename_i hs
        have ht := run_elemT h1
        have hr := hf.opnd_ref x
        have ho := hf.opnd_ok x
        rw [hx] at hr ho
        have fin : ∀ (lo' hi' : Int) (vlo vhi : Option Value), (sliceA l k i m z lo' hi').gives v → lo.map a.eval = vlo → hi.map a.eval = vhi →
            (vlo = none ∧ lo' = 0 ∨ ∃ k, vlo = some (.int k lo')) → (vhi = none ∧ hi' = m ∨ ∃ k, vhi = some (.int k hi')) →
            Gives P E a { dst := dst, op := Op.slice t x lo hi none, type := ty, pos := pos, after := after, guard := guard } v ∧ v.ref ≤ n ∧ v.ok E := by
          intro lo' hi' vlo vhi hg e1 e2 h2 h3
          have key := fun w => gives_slice ht hg vlo vhi h2 h3 hs (ok_s.1 ho) w
          refine ⟨fun w => ?_, ?_, (key default).2.2⟩
          · have := (key w).1
            simp only [execOp, Option.map_none, e1, e2, hf.eval, hx]
            simp only [AV.conc, EV.conc] at this ⊢
            simp only [Sem.run_bind, this, Result.andThen_ok, Sem.run_pure]
          · rw [(key default).2.1]; exact hr
        cases lo with
        | none => cases hi with
          | none => exact fin 0 m none none h rfl rfl (.inl ⟨rfl, rfl⟩) (.inl ⟨rfl, rfl⟩)
          | some yh =>
            simp only [Option.map_none, Option.map_some] at h
            cases hy : asInt (opnd fr yh) with
            | none => simp only [hy] at h; cases h
            | some b =>
              simp only [hy] at h
              obtain ⟨kb, hb⟩ := lohi hf yh hy
              exact fin 0 b none _ h rfl rfl (.inl ⟨rfl, rfl⟩) (.inr ⟨kb, by simp [hb]⟩)
        | some yl =>
          cases hyl : asInt (opnd fr yl) with
          | none => cases hi <;> simp only [Option.map_none, Option.map_some, hyl] at h <;> cases h
          | some c =>
            obtain ⟨kc, hc⟩ := lohi hf yl hyl
            cases hi with
            | none =>
              simp only [Option.map_none, Option.map_some, hyl] at h
              exact fin c m _ none h rfl rfl (.inr ⟨kc, by simp [hc]⟩) (.inl ⟨rfl, rfl⟩)
            | some yh =>
              simp only [Option.map_some, hyl] at h
              cases hy : asInt (opnd fr yh) with
              | none => simp only [hy] at h; cases h
              | some b =>
                simp only [hy] at h
                obtain ⟨kb, hb⟩ := lohi hf yh hy
                exact fin c b _ _ h rfl rfl (.inr ⟨kc, by simp [hc]⟩) (.inr ⟨kb, by simp [hb]⟩)
      · cases h
    · cases h
  case fieldAddr s x f =>
    split at h
    · rename_i off ft l o h1 hx
      simp only [R.gives] at h
      subst h
      have hr := hf.opnd_ref x
      rw [hx] at hr
      exact ⟨fun w => by simp [execOp, hf.eval, hx, AV.conc, EV.conc, SV.conc, run_fieldAt h1], hr, ok_s.2 trivial⟩
    · rename_i off ft l k i o h1 hx
      simp only [R.gives] at h
      subst h
      have hr := hf.opnd_ref x
      rw [hx] at hr
      exact ⟨fun w => by simp [execOp, hf.eval, hx, AV.conc, EV.conc, SV.conc, run_fieldAt h1, Nat.add_assoc], hr, ok_s.2 trivial⟩
    · cases h
  case field s x f =>
    split at h
    · rename_i off ft cs h1 hx
      obtain ⟨fs, y, hu, hfy, rfl, rfl, _⟩ := run_fieldOff h1
      have hr := hf.opnd_ref x
      have ho := hf.opnd_ok x
      rw [hx] at hr ho
      split at h
      · rename_i m ha hs
        split at h
        · simp only [R.gives] at h
          subst h
          refine ⟨fun w => ?_, ref_take hr _ _, ok_take ho _ _⟩
          simp [execOp, hf.eval, hx, AV.conc, EV.conc, Instr.field, run_underlying hu, hfy, asAgg, part, run_isAgg ha, run_sizeOf hs, List.extract_eq_take_drop, List.map_take, List.map_drop]
        · cases h
      · rename_i ha
        split at h
        · rename_i u hu'
          simp only [R.gives] at h
          subst h
          refine ⟨fun w => ?_, refs_le.1 hr u (List.mem_of_getElem? hu'), ok_s.2 (ho u (List.mem_of_getElem? hu'))⟩
          simp [execOp, hf.eval, hx, AV.conc, EV.conc, Instr.field, run_underlying hu, hfy, asAgg, part, run_isAgg ha, hu']
        · cases h
      · cases h
    · cases h
  case indexAddr t x ix =>
    split at h
    · rename_i e l k i m z j h1 hx hj
      split at h
      · rename_i hs
        simp only [R.gives] at h
        obtain ⟨⟨hj0, hj1⟩, rfl⟩ := h
        have ht := run_elemT h1
        obtain ⟨kj, hjc⟩ := lohi hf ix hj
        have hr := hf.opnd_ref x
        have ho := ok_s.1 (hx ▸ hf.opnd_ok x)
        rw [hx] at hr
        refine ⟨fun w => ?_, hr, ok_s.2 trivial⟩
        have hnil : E.nil l = false := by
          cases hn : E.nil l with
          | false => rfl
          | true => have := ho.1 hn; omega
        have hc := ho.2 hnil
        have hne : i ≠ E.cap l := by omega
        simp only [execOp, hf.eval x, hx, hjc, AV.conc, EV.conc, SV.conc, hnil, if_neg hne]
        simp [Instr.indexAt, asIntOf, run_underlying ht, hj0, hj1, run_sizeOf hs, add_lit, Nat.add_mul, Nat.add_assoc]
      · cases h
    · cases h
  case extract x i =>
    split at h
    · rename_i vs hx
      split at h
      · rename_i u hu
        simp only [R.gives] at h
        subst h
        have hr := hf.opnd_ref x
        have ho := hf.opnd_ok x
        rw [hx] at hr ho
        refine ⟨fun w => ?_, tup_ref.1 hr u (List.mem_of_getElem? hu), fun y hy => ho y (List.mem_flatMap.2 ⟨u, List.mem_of_getElem? hu, hy⟩)⟩
        simp [execOp, hf.eval, hx, AV.conc, Instr.extract, hu]
      · cases h
    · cases h
  case call c =>
    obtain ⟨callee, args, argTypes⟩ := c
    cases callee <;> try (cases h; done)
    rename_i b
    have e0 : ∀ {l : List AV}, args.toList.map (opnd fr) = l → args.map a.eval = (l.map (AV.conc E)).toArray := by
      rintro l rfl
      rw [← Array.toList_inj]
      simp [hf.eval]
    cases b <;> simp only [] at h <;> try (cases h; done)
    case len =>
      split at h
      · rename_i l k i m z t h1 h2
        split at h
        · rename_i hs
          obtain ⟨e, he⟩ := Option.isSome_iff_exists.1 hs
          have ht := run_elemT he
          simp only [R.gives] at h
          subst h
          have hmem : (AV.e (.s (.sl l k i m z))) ∈ args.toList.map (opnd fr) := by rw [h1]; simp
          obtain ⟨y, _, hy⟩ := List.mem_map.1 hmem
          have ho := ok_s.1 (hy ▸ hf.opnd_ok y)
          have e1 := e0 h1
          have e2 : argTypes = #[t] := by rw [← Array.toList_inj]; exact h2
          refine ⟨fun w => ?_, Nat.zero_le _, ok_s.2 trivial⟩
          simp only [execOp, resolve, e1, e2]
          cases hn : E.nil l with
          | true =>
            have := ho.1 hn
            simp [invoke, builtin, Builtin.len_, AV.conc, EV.conc, SV.conc, hn, run_underlying ht, goInt, this]
          | false => simp [invoke, builtin, Builtin.len_, AV.conc, EV.conc, SV.conc, hn, run_underlying ht, goInt]
        · cases h
      · rename_i t h1 h2
        split at h
        · rename_i hs
          obtain ⟨e, he⟩ := Option.isSome_iff_exists.1 hs
          have ht := run_elemT he
          simp only [R.gives] at h
          subst h
          have e1 := e0 h1
          have e2 : argTypes = #[t] := by rw [← Array.toList_inj]; exact h2
          refine ⟨fun w => ?_, Nat.zero_le _, ok_s.2 trivial⟩
          simp [execOp, resolve, e1, e2, invoke, builtin, Builtin.len_, AV.conc, EV.conc, SV.conc, run_underlying ht, goInt]
        · cases h
      · cases h
    case max =>
      split at h
      · rename_i x y h1
        have e1 := e0 h1
        have key := fun w => gives_max (P := P) (E := E) h w
        refine ⟨fun w => ?_, by have := (key default).2.1; omega, (key default).2.2⟩
        have := (key w).1
        simp only [if_true] at this
        simp [execOp, resolve, e1, invoke, builtin, Builtin.max_, this]
      · cases h
    case min =>
      split at h
      · rename_i x y h1
        have e1 := e0 h1
        have key := fun w => gives_max (P := P) (E := E) h w
        refine ⟨fun w => ?_, by have := (key default).2.1; omega, (key default).2.2⟩
        have := (key w).1
        simp only [Bool.false_eq_true, if_false] at this
        simp [execOp, resolve, e1, invoke, builtin, Builtin.min_, this]
      · cases h

end
end Go.Proofs.Ythckkoledhjmeaa.Ev
