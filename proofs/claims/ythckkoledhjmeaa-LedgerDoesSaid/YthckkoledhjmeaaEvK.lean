/-
  The abstract evaluator: one operation; regions that have one order.
-/
import Derived.Test.YthckkoledhjmeaaEvJ
namespace Go.Proofs.Ythckkoledhjmeaa.Ev
open Go

/-- What is asked of the program once. -/
structure Fine (P : Program) : Prop where
  name : ∀ (f : Nat) (fn : Func), P.funcs[f]? = some fn → (fn.name == "runtime.NumGoroutine") = false
  mixed : P.follows .mixedOrders = true

/-- Calls that are answered so are what the calls do. -/
def ClOk {α : Type} (P : Program) (cl : Cl α) (Q : α → Prop) : Prop :=
  ∀ f args H (k : AV → Heap → T α), (cl f args H k).sat P Q → CallsA P f args H fun r H' => (k r H').sat P Q

section
variable {P : Program} {E : Env} {H : Heap} {fr : List AV} {a : Act} {w : World} {α : Type} {cl : Cl α} {Q0 : α → Prop}

/-- What an operation leaves. -/
def Left (_ : Program) (E : Env) (H : Heap) (w : World) (a : Act) (o : Oper) (Q : AV → Heap → Prop) (a' : Act) (w' : World) : Prop :=
  ∃ (v : AV) (H' : Heap) (E' : Env), a' = a.put o.dst (v.conc E') ∧ Step H.length E H w E' H' w' ∧ v.ref ≤ H'.length ∧ v.ok E' ∧ Q v H'

theorem wp_value {o : Oper} {v : Value} {K : Act → World → Prop} {Q : Exit → Act → World → Prop} (h : (execOp a.eval o).run P w = .ok (.value v) w) (hk : K (a.put o.dst v) w) : o.wp P a w K Q := by
  unfold Oper.wp
  rw [h]
  exact hk

theorem pure_left (h : HRep E H w) (hf : FRep E H.length fr a) {o : Oper} {k : AV → Heap → T α} {Q : Exit → Act → World → Prop}
    (hq : ((pureA P fr o.op).then fun v => k v H).sat P Q0) : o.wp P a w (Left P E H w a o fun v H' => (k v H').sat P Q0) Q := by
  obtain ⟨v, h1, h2⟩ := R.sat_then hq
  obtain ⟨g1, g2, g3⟩ := pure_gives hf o v h1
  exact wp_value (g1 w) ⟨v, H, E, rfl, .refl h (Nat.le_refl _), g2, g3, h2⟩

theorem read_left (h : HRep E H w) (hf : FRep E H.length fr a) {o : Oper} {l : Nat} {r : AB → R} {B : AB} (hr : readA P fr o.op = .at l r) (hl : H[l]? = some B) {k : AV → Heap → T α} {Q : Exit → Act → World → Prop}
    (hq : ((r B).then fun v => k v H).sat P Q0) : o.wp P a w (Left P E H w a o fun v H' => (k v H').sat P Q0) Q := by
  obtain ⟨v, h1, h2⟩ := R.sat_then hq
  obtain ⟨g1, g2, g3⟩ := read_gives hf o hr h1 (h.rep l B hl) (h.ok l B hl)
  exact wp_value g1 ⟨v, H, E, rfl, .refl h (Nat.le_refl _), g2, g3, h2⟩

theorem eff_left (h : HRep E H w) (hf : FRep E H.length fr a) {o : Oper} {k : AV → Heap → T α} {Q : Exit → Act → World → Prop}
    (hq : ((effA P fr H o.op).bind fun x => k x.1 x.2).sat P Q0) : o.wp P a w (Left P E H w a o fun v H' => (k v H').sat P Q0) Q := by
  obtain ⟨nx, v, H', E', w', hrun, hnx, hst, g2, g3, hq⟩ := eff_sat h hf (T.sat_bind hq)
  unfold Oper.wp
  rw [hrun]
  rcases hnx with rfl | ⟨rfl, rfl⟩
  · exact ⟨v, H', E', rfl, hst, g2, g3, hq⟩
  · exact ⟨undefA, H', E', rfl, hst, g2, g3, hq⟩

theorem call_left (hP : Fine P) (hc : ClOk P cl Q0) (h : HRep E H w) (hf : FRep E H.length fr a) {o : Oper} {x : Operand} {args : Array Operand} {argTypes : Array TypeId} (hop : o.op = .call { callee := .value x, args, argTypes })
    {f : Nat} {caps : List (Nat × Nat)} (hx : opnd fr x = .e (.s (.fn f caps))) (hb : hasBody P f = true) {k : AV → Heap → T α} {Q : Exit → Act → World → Prop}
    (hq : (cl f (args.toList.map (opnd fr) ++ caps.map fun p => .e (.s (.ptr p.1 p.2))) H k).sat P Q0) : o.wp P a w (Left P E H w a o fun v H' => (k v H').sat P Q0) Q := by
  have hcall := hc _ _ _ _ hq E w h (by
    intro y hy
    rcases List.mem_append.1 hy with hy | hy
    · obtain ⟨z, _, rfl⟩ := List.mem_map.1 hy
      exact ⟨hf.opnd_ref z, hf.opnd_ok z⟩
    · obtain ⟨p, hp, rfl⟩ := List.mem_map.1 hy
      refine ⟨?_, ok_s.2 trivial⟩
      have h1 := hf.opnd_ref x
      rw [hx] at h1
      exact caps_ref h1 p hp)
  have eargs : args.map a.eval ++ (caps.map fun p => Value.pointer (some ⟨E.blk p.1, p.2, none⟩)).toArray = ((args.toList.map (opnd fr) ++ caps.map fun p => AV.e (.s (.ptr p.1 p.2))).map (AV.conc E)).toArray := by
    rw [← Array.toList_inj]
    have he : a.eval = AV.conc E ∘ opnd fr := funext hf.eval
    simp only [Array.toList_append, Array.toList_map, List.map_append, List.map_map, he]
    rfl
  have hbody : ∃ fn, P.funcs[f]? = some fn ∧ fn.body.isNone = false := by
    unfold hasBody at hb
    cases hfn : P.funcs[f]? with
    | none => simp [hfn] at hb
    | some fn => rw [hfn] at hb; exact ⟨fn, rfl, by cases hbb : fn.body <;> simp_all⟩
  obtain ⟨fn, hfn, hbn⟩ := hbody
  have hnm := hP.name f fn hfn
  have e1 : a.eval x = .func (.func f) #[] (caps.map fun p => Value.pointer (some ⟨E.blk p.1, p.2, none⟩)).toArray := by rw [hf.eval, hx]; rfl
  have hrun : (execOp a.eval o).run P w = .ok (.enter f ((args.toList.map (opnd fr) ++ caps.map fun p => AV.e (.s (.ptr p.1 p.2))).map (AV.conc E)).toArray) w := by
    rw [← eargs]
    simp only [execOp, hop, resolve, e1, Deferred.ofValue, Sem.run_bind, Sem.run_pure, Result.andThen_ok, invoke, callFunc, run_program, hfn, hnm, hbn]
    simp
  unfold Oper.wp
  rw [hrun]
  refine Calls.mono hcall fun e w' hh => ?_
  obtain ⟨r, H', E', rfl, hst, g2, g3, hq⟩ := hh
  exact ⟨r, H', E', rfl, hst, g2, g3, hq⟩

/-- Whatever the evaluator says of an operation. -/
theorem op_left (hP : Fine P) (hc : ClOk P cl Q0) (h : HRep E H w) (hf : FRep E H.length fr a) {o : Oper} {k : AV → Heap → T α} {Q : Exit → Act → World → Prop}
    (hq : (opT P cl o fr H k).sat P Q0) : o.wp P a w (Left P E H w a o fun v H' => (k v H').sat P Q0) Q := by
  unfold opT at hq
  cases hp : pureA P fr o.op with
  | v x => rw [hp] at hq; exact pure_left h hf (by rw [hp]; exact hq)
  | b t => rw [hp] at hq; exact pure_left h hf (by rw [hp]; exact hq)
  | need p r => rw [hp] at hq; exact pure_left h hf (by rw [hp]; exact hq)
  | bad =>
    simp only [hp] at hq
    cases hr : readA P fr o.op with
    | «at» l r =>
      simp only [hr] at hq
      cases hl : H[l]? with
      | none => rw [hl] at hq; exact hq.elim
      | some B => rw [hl] at hq; exact read_left h hf hr hl hq
    | none =>
      simp only [hr] at hq
      split at hq
      · rename_i x args argTypes hop
        split at hq
        · rename_i f caps hx
          split at hq
          · rename_i hb
            exact call_left hP hc h hf hop hx hb hq
          · exact hq.elim
        · exact hq.elim
      · exact eff_left h hf hq

theorem FRep.left (hf : FRep E H.length fr a) {o : Oper} {v : AV} {H' : Heap} {E' : Env} {w' : World} (hst : Step H.length E H w E' H' w') (hv : v.ref ≤ H'.length) (ho : v.ok E') :
    FRep E' H'.length (Ev.put fr o.dst v) (a.put o.dst (v.conc E')) := (hf.agree hst.agree hst.len).put _ _ hv ho

/-! ### Guards -/

theorem guard_yes (hf : FRep E H.length fr a) {ops : Array Oper} {o : Oper} (h : guardA ops fr o.guard = .yes) : Region.wanted o (yielded ops a.tmps) = true := by
  unfold guardA at h
  unfold Region.wanted
  split at h
  · rename_i hg; rw [hg]
  · rename_i j want hg
    rw [hg]
    cases hd : (ops[j]?).bind (·.dst) with
    | none => rw [hd] at h; cases h
    | some d =>
      rw [hd] at h
      simp only [yielded, hd, Option.bind_some, hf.tmps, List.getElem?_toArray, List.getElem?_map]
      simp only [] at h
      split at h
      · rename_i b hb
        rw [hb]
        split at h
        · rename_i hw; subst hw; simp [AV.conc, EV.conc, SV.conc]
        · cases h
      · cases h
      · cases h

theorem guard_dyn (hf : FRep E H.length fr a) {ops : Array Oper} {o : Oper} {b want : Bool} (h : guardA ops fr o.guard = .dyn b want) : Region.wanted o (yielded ops a.tmps) = (b == want) := by
  unfold guardA at h
  unfold Region.wanted
  split at h
  · cases h
  · rename_i j want' hg
    rw [hg]
    cases hd : (ops[j]?).bind (·.dst) with
    | none => rw [hd] at h; cases h
    | some d =>
      rw [hd] at h
      simp only [yielded, hd, Option.bind_some, hf.tmps, List.getElem?_toArray, List.getElem?_map]
      simp only [] at h
      split at h
      · split at h <;> cases h
      · rename_i b' hb
        cases h
        rw [hb]
        simp [AV.conc, EV.conc, SV.conc]
      · cases h

theorem guard_no (hf : FRep E H.length fr a) {ops : Array Oper} {o : Oper} (h : guardA ops fr o.guard = .no) : Region.wanted o (yielded ops a.tmps) = false := by
  unfold guardA at h
  unfold Region.wanted
  split at h
  · cases h
  · rename_i j want hg
    rw [hg]
    cases hd : (ops[j]?).bind (·.dst) with
    | none => simp [yielded, hd]
    | some d =>
      rw [hd] at h
      simp only [yielded, hd, Option.bind_some, hf.tmps, List.getElem?_toArray, List.getElem?_map]
      simp only [] at h
      split at h
      · rename_i b hb
        rw [hb]
        split at h
        · cases h
        · rename_i hw; simp [AV.conc, EV.conc, SV.conc, hw]
      · cases h
      · rename_i h1 h2
        cases hx : fr[d]? with
        | none => simp
        | some x =>
          cases x with
          | tup vs => simp [AV.conc]
          | e y => cases y with
            | agg cs => simp [AV.conc, EV.conc]
            | s z =>
              cases z with
              | c v => cases v <;> simp [AV.conc, EV.conc, SV.conc] <;> exact absurd hx (h1 _)
              | d v => cases v <;> simp [AV.conc, EV.conc, SV.conc] <;> exact absurd hx (h2 _)
              | ptr l o => simp [AV.conc, EV.conc, SV.conc]
              | rp l k i o => simp [AV.conc, EV.conc, SV.conc]
              | sl l k i n z => simp only [AV.conc, EV.conc, SV.conc, Option.map_some]; cases E.nil l <;> simp
              | mp l => simp [AV.conc, EV.conc, SV.conc]
              | fn f caps => simp [AV.conc, EV.conc, SV.conc]

/-! ### Regions of one order -/

theorem lets_imp {Q Q' : Exit → Act → World → Prop} (hQ : ∀ e a w, Q e a w → Q' e a w) (h : LetsOut Q) : LetsOut Q' := let ⟨a, w, h⟩ := h; ⟨a, w, hQ _ _ _ h⟩

theorem upon_imp {o : Oper} {K K' : Act → World → Prop} {Q Q' : Exit → Act → World → Prop} (hk : ∀ a w, K a w → K' a w) (hQ : ∀ e a w, Q e a w → Q' e a w) {a : Act} {w : World} (h : o.wp P a w K Q) : o.wp P a w K' Q' := by
  unfold Oper.wp at *
  generalize (execOp a.eval o).run P w = r at *
  cases r with
  | ok n w' =>
    cases n <;> simp only [Oper.upon] at h ⊢ <;>
      first
        | exact hk _ _ h
        | exact Calls.mono h (fun e w'' he => by cases e <;> first | exact hk _ _ he | exact hQ _ _ _ he | exact lets_imp hQ he)
        | exact Rows.mono h (fun _ _ he => hk _ _ he)
  | halt x w' => cases x <;> simp only [Oper.upon] at h ⊢ <;> exact hQ _ _ _ h

theorem wpList_imp {ops : Array Oper} {Q Q' : Exit → Act → World → Prop} (hQ : ∀ e a w, Q e a w → Q' e a w) : ∀ (l : List Oper) (a : Act) (w : World), wpList P ops Q l a w → wpList P ops Q' l a w
  | [], _, _, h => hQ _ _ _ h
  | o :: rest, a, w, h => by
    unfold wpList at h ⊢
    split at h
    · rename_i hw
      rw [if_pos hw]
      rcases h with h | ⟨h1, h2⟩
      · exact .inl (upon_imp (wpList_imp hQ rest) hQ h)
      · exact .inr ⟨h1, lets_imp hQ h2⟩
    · rename_i hw
      rw [if_neg hw]
      exact wpList_imp hQ rest _ _ h


theorem reg_sat {α : Type} {cl : Cl α} {Q0 : α → Prop} (hP : Fine P) (hc : ClOk P cl Q0) {ops : Array Oper} {k : St → T α} :
    ∀ (l : List Oper) {E : Env} {σ : St} {a : Act} {w : World}, HRep E σ.H w → FRep E σ.H.length σ.fr a → (regT P cl ops l σ k).sat P Q0 →
      wpList P ops (fun e a' w' => ∃ (σ' : St) (E' : Env), e = .normal ∧ Step σ.H.length E σ.H w E' σ'.H w' ∧ FRep E' σ'.H.length σ'.fr a' ∧ (k σ').sat P Q0) l a w
  | [], E, σ, a, w, h, hf, hq => ⟨σ, E, rfl, .refl h (Nat.le_refl _), hf, hq⟩
  | o :: rest, E, σ, a, w, h, hf, hq => by
    have go : ∀ {v : AV} {H' : Heap} {E' : Env} {w' : World}, Step σ.H.length E σ.H w E' H' w' → FRep E' H'.length (put σ.fr o.dst v) (a.put o.dst (v.conc E')) → (regT P cl ops rest ⟨put σ.fr o.dst v, H'⟩ k).sat P Q0 →
        wpList P ops (fun e a' w' => ∃ (σ' : St) (E' : Env), e = .normal ∧ Step σ.H.length E σ.H w E' σ'.H w' ∧ FRep E' σ'.H.length σ'.fr a' ∧ (k σ').sat P Q0) rest (a.put o.dst (v.conc E')) w' := by
      intro v H' E' w' hst hf' hq'
      have ih := reg_sat hP hc rest (σ := ⟨put σ.fr o.dst v, H'⟩) hst.rep hf' hq'
      refine wpList_imp ?_ rest _ _ ih
      rintro e a' w'' ⟨σ', E'', h1, h2, h3, h4⟩
      exact ⟨σ', E'', h1, hst.trans h2 hst.len, h3, h4⟩
    have yes : (opT P cl o σ.fr σ.H fun v H' => regT P cl ops rest ⟨put σ.fr o.dst v, H'⟩ k).sat P Q0 → Region.wanted o (yielded ops a.tmps) = true →
        wpList P ops (fun e a' w' => ∃ (σ' : St) (E' : Env), e = .normal ∧ Step σ.H.length E σ.H w E' σ'.H w' ∧ FRep E' σ'.H.length σ'.fr a' ∧ (k σ').sat P Q0) (o :: rest) a w := by
      intro hq hw
      unfold wpList
      rw [if_pos hw]
      refine .inl (Oper.wp_mono ?_ (op_left hP hc h hf hq))
      rintro a' w' ⟨v, H', E', rfl, hst, g2, g3, hq'⟩
      exact go hst (hf.left hst g2 g3) hq'
    have no : (regT P cl ops rest ⟨put σ.fr o.dst undefA, σ.H⟩ k).sat P Q0 → Region.wanted o (yielded ops a.tmps) = false →
        wpList P ops (fun e a' w' => ∃ (σ' : St) (E' : Env), e = .normal ∧ Step σ.H.length E σ.H w E' σ'.H w' ∧ FRep E' σ'.H.length σ'.fr a' ∧ (k σ').sat P Q0) (o :: rest) a w := by
      intro hq hw
      unfold wpList
      rw [if_neg (by simp [hw])]
      exact go (.refl h (Nat.le_refl _)) (hf.put _ _ (Nat.zero_le _) undef_ok) hq
    unfold regT at hq
    cases hg : guardA ops σ.fr o.guard with
    | yes => rw [hg] at hq; exact yes hq (guard_yes hf hg)
    | no => rw [hg] at hq; exact no hq (guard_no hf hg)
    | dyn b want =>
      rw [hg] at hq
      have hw := guard_dyn hf hg
      cases hb : b == want with
      | true => exact yes (hq.1 hb) (by rw [hw, hb])
      | false => exact no (hq.2 hb) (by rw [hw, hb])

end
end Go.Proofs.Ythckkoledhjmeaa.Ev
