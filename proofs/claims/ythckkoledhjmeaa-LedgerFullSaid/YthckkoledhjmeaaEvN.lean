/-
  The abstract evaluator: code and calls.
-/
import Derived.LoopN
import Derived.Tactics
import Derived.Test.YthckkoledhjmeaaEvM
namespace Go.Proofs.Ythckkoledhjmeaa.Ev
open Go

/-- Every region that draws has an order that stands. -/
def codeB (ord : Nat → Ct) : Code → Bool
  | .region id ops true => regB ops (ord id)
  | .seq a b => codeB ord a && codeB ord b
  | .cond _ a b => codeB ord a && codeB ord b
  | .block _ c => codeB ord c
  | .loop c => codeB ord c
  | _ => true

def CodeQ (n0 : Nat) (E : Env) (H : Heap) (w : World) (R : Exit → St → Prop) (e : Exit) (a' : Act) (w' : World) : Prop :=
  ∃ (σ' : St) (E' : Env), Step n0 E H w E' σ'.H w' ∧ FRep E' σ'.H.length σ'.fr a' ∧ R e σ'

section
variable {P : Program} {α : Type} {cl : Cl α} {Q0 : α → Prop}

theorem CodeQ.trans {n0 : Nat} {E E1 : Env} {H H1 : Heap} {w w1 : World} (h : Step n0 E H w E1 H1 w1) {R : Exit → St → Prop} {e : Exit} {a' : Act} {w' : World} (hq : CodeQ n0 E1 H1 w1 R e a' w') : CodeQ n0 E H w R e a' w' := by
  obtain ⟨σ', E', h1, h2, h3⟩ := hq
  exact ⟨σ', E', h.trans h1 (Nat.le_refl _), h2, h3⟩

theorem rounds_mono {c : Code} {Q Q' : Exit → Act → World → Prop} : ∀ (n : Nat) {a : Act} {w : World}, (∀ e a w, Q e a w → Q' e a w) → Code.rounds P c Q n a w → Code.rounds P c Q' n a w
  | 0, _, _, _, h => h
  | n + 1, a, w, hq, h => by
    rw [rounds_succ] at h ⊢
    refine wp_mono h fun e a' w' h' => ?_
    cases e with
    | normal => exact rounds_mono n hq h'
    | _ => exact hq _ _ _ h'

theorem code_sat (hP : Fine P) (hc : ClOk P cl Q0) {ord : Nat → Ct} {n0 un : Nat} :
    ∀ (c : Code) (E : Env) (σ : St) (a : Act) (w : World) (k : Exit → St → T α), codeB ord c = true → HRep E σ.H w → FRep E σ.H.length σ.fr a → n0 ≤ σ.H.length → (codeT P cl ord n0 un c σ k).sat P Q0 →
      c.wp P (CodeQ n0 E σ.H w fun e σ' => (k e σ').sat P Q0) a w := by
  intro c
  induction c with
  | skip => intro E σ a w k _ h hf hn hq; exact wp_skip ⟨σ, E, .refl h hn, hf, hq⟩
  | region id ops draw =>
    intro E σ a w k hB h hf hn hq
    cases draw with
    | true =>
      refine wp_mono (regD_sat hP hc hB h hf hq) ?_
      rintro e a' w' ⟨σ', E', rfl, h1, h2, h3⟩
      exact ⟨σ', E', h1.mono hn, h2, h3⟩
    | false =>
      refine wp_region_list (wpList_imp ?_ _ _ _ (reg_sat hP hc ops.toList h hf hq))
      rintro e a' w' ⟨σ', E', rfl, h1, h2, h3⟩
      exact ⟨σ', E', h1.mono hn, h2, h3⟩
  | seq x y ihx ihy =>
    intro E σ a w k hB h hf hn hq
    simp only [codeB, Bool.and_eq_true] at hB
    refine wp_seq (wp_mono (ihx E σ a w _ hB.1 h hf hn hq) ?_)
    rintro e a' w' ⟨σ', E', h1, h2, h3⟩
    cases e with
    | normal => exact wp_mono (ihy E' σ' a' w' _ hB.2 h1.rep h2 h1.len h3) fun _ _ _ hq => hq.trans h1
    | exit id => exact ⟨σ', E', h1, h2, h3⟩
    | goto l => exact ⟨σ', E', h1, h2, h3⟩
    | ret => exact ⟨σ', E', h1, h2, h3⟩
    | panic ch => exact ⟨σ', E', h1, h2, h3⟩
    | outgrown => exact ⟨σ', E', h1, h2, h3⟩
  | cond c x y ihx ihy =>
    intro E σ a w k hB h hf hn hq
    simp only [codeB, Bool.and_eq_true] at hB
    unfold codeT at hq
    split at hq
    · rename_i t ht
      have he : a.eval c = .bool t := by rw [hf.eval, ht]; rfl
      cases t with
      | true => exact wp_cond_true he (ihx E σ a w _ hB.1 h hf hn hq)
      | false => exact wp_cond_false he (ihy E σ a w _ hB.2 h hf hn hq)
    · rename_i t ht
      have he : a.eval c = .bool t := by rw [hf.eval, ht]; rfl
      cases t with
      | true => exact wp_cond_true he (ihx E σ a w _ hB.1 h hf hn (hq.1 rfl))
      | false => exact wp_cond_false he (ihy E σ a w _ hB.2 h hf hn (hq.2 rfl))
    · exact hq.elim
  | block id c ih =>
    intro E σ a w k hB h hf hn hq
    refine wp_block (wp_mono (ih E σ a w _ hB h hf hn hq) ?_)
    rintro e a' w' ⟨σ', E', h1, h2, h3⟩
    cases e with
    | exit j =>
      simp only [Exit.inBlock]
      simp only [] at h3
      split
      · rename_i hj; rw [if_pos hj] at h3; exact ⟨σ', E', h1, h2, h3⟩
      · rename_i hj; rw [if_neg hj] at h3; exact ⟨σ', E', h1, h2, h3⟩
    | normal => exact ⟨σ', E', h1, h2, h3⟩
    | goto l => exact ⟨σ', E', h1, h2, h3⟩
    | ret => exact ⟨σ', E', h1, h2, h3⟩
    | panic ch => exact ⟨σ', E', h1, h2, h3⟩
    | outgrown => exact ⟨σ', E', h1, h2, h3⟩
  | loop c ih =>
    intro E σ a w k hB h hf hn hq
    have rounds : ∀ (m : Nat) (E : Env) (σ : St) (a : Act) (w : World), HRep E σ.H w → FRep E σ.H.length σ.fr a → n0 ≤ σ.H.length → (loopT (fun σ k => codeT P cl ord n0 un c σ k) m σ k).sat P Q0 →
        Code.rounds P c (CodeQ n0 E σ.H w fun e σ' => (k e σ').sat P Q0) m a w := by
      intro m
      induction m with
      | zero => intro E σ a w h hf hn hq; exact hq.elim
      | succ m ihm =>
        intro E σ a w h hf hn hq
        rw [rounds_succ]
        refine wp_mono (ih E σ a w _ hB h hf hn hq) ?_
        rintro e a' w' ⟨σ', E', h1, h2, h3⟩
        cases e with
        | normal => exact rounds_mono m (fun _ _ _ hq => hq.trans h1) (ihm E' σ' a' w' h1.rep h2 h1.len h3)
        | exit id => exact ⟨σ', E', h1, h2, h3⟩
        | goto l => exact ⟨σ', E', h1, h2, h3⟩
        | ret => exact ⟨σ', E', h1, h2, h3⟩
        | panic ch => exact ⟨σ', E', h1, h2, h3⟩
        | outgrown => exact ⟨σ', E', h1, h2, h3⟩
    unfold codeT at hq
    cases un with
    | zero => exact hq E w a h hf hn
    | succ m => exact wp_loop_rounds (m + 1) (rounds (m + 1) E σ a w h hf hn hq)
  | exit id => intro E σ a w k _ h hf hn hq; exact wp_exit ⟨σ, E, .refl h hn, hf, hq⟩
  | ret => intro E σ a w k _ h hf hn hq; exact wp_ret ⟨σ, E, .refl h hn, hf, hq⟩
  | label l => intro E σ a w k _ h hf hn hq; exact wp_label ⟨σ, E, .refl h hn, hf, hq⟩
  | rangeFunc f ps as b => intro E σ a w k _ h hf hn hq; exact hq.elim
  | scope b => intro E σ a w k _ h hf hn hq; exact hq.elim
  | goto l => intro E σ a w k _ h hf hn hq; exact hq.elim
  | refuse why => intro E σ a w k _ h hf hn hq; exact hq.elim

/-! ### What a call hands back -/

theorem refsH_le {n : Nat} : ∀ {H : Heap}, refsH H ≤ n → ∀ B ∈ H, B.ref ≤ n
  | [], _, B, hB => by cases hB
  | C :: H, h, B, hB => by
    simp only [refsH, List.foldr_cons] at h
    rcases List.mem_cons.1 hB with rfl | hB
    · omega
    · exact refsH_le (H := H) (by simp only [refsH]; omega) B hB

theorem step_take {n0 m : Nat} {E E' : Env} {H H' : Heap} {w w' : World} (h : Step n0 E H w E' H' w') (hm : n0 ≤ m) (hr : refsH (H'.take m) ≤ m) : Step n0 E H w E' (H'.take m) w' := by
  have get : ∀ {l : Nat} {B : AB}, (H'.take m)[l]? = some B → H'[l]? = some B := by
    intro l B hl
    rw [List.getElem?_take] at hl
    split at hl
    · exact hl
    · cases hl
  have him : ∀ b, Im E' (H'.take m) b → Im E' H' b := fun b ⟨l, B, h1, h2, h3⟩ => ⟨l, B, get h1, h2, h3⟩
  refine ⟨h.agree, ?_, ⟨fun l B hl => h.rep.rep l B (get hl), fun l B hl => ?_, fun l l' B B' hl hl' => h.rep.inj l l' B B' (get hl) (get hl'), fun l k n g hl hn hi => h.rep.ro l k n g (get hl) hn (him _ hi)⟩, h.os, h.tape, h.output, h.size, h.frame, fun b hb hi => h.im b hb (him b hi)⟩
  · rw [List.length_take]; have := h.len; omega
  · have h1 := h.rep.ok l B (get hl)
    have h2 := refsH_le hr B (List.mem_of_getElem? hl)
    rw [List.length_take]
    cases B <;> try trivial
    rename_i ty cs
    exact ⟨by have := h1.1; simp only [AB.ref] at h2; omega, h1.2⟩

theorem step_trim {n0 : Nat} {E E' : Env} {H H' : Heap} {w w' : World} (h : Step n0 E H w E' H' w') {r : AV} (hr : r.ref ≤ H'.length) :
    Step n0 E H w E' (trim n0 r H') w' ∧ r.ref ≤ (trim n0 r H').length := by
  unfold trim
  simp only []
  split
  · rename_i hm
    exact ⟨step_take h (by omega) hm, by rw [List.length_take]; omega⟩
  · exact ⟨h, hr⟩

def resOne (tmps : Array Value) : ResultVar → Sem Value
  | .tmp t => pure (tmps.getD t undef)
  | .cell y t => do loadVar t (← asAddr (tmps.getD y undef))

theorem results_eq (fn : Func) (tmps : Array Value) : results fn tmps = (fn.results.mapM (resOne tmps) >>= fun vs => pure (if h : vs.size = 1 then vs[0] else .tuple vs) : Sem Value) := by
  unfold results
  congr 1

def resV (E : Env) : List EV → Value
  | [x] => x.conc E
  | vs => .tuple (vs.map (EV.conc E)).toArray

section
variable {E : Env} {σ : St} {w : World} {a : Act}

theorem run_resA (h : HRep E σ.H w) (hf : FRep E σ.H.length σ.fr a) {x : ResultVar} {v : AV} (hg : (resA P σ x).gives v) :
    (resOne a.tmps x).run P w = .ok (v.conc E) w ∧ v.ref ≤ σ.H.length ∧ v.ok E := by
  have ev : ∀ t, a.tmps.getD t undef = (opnd σ.fr (.tmp t)).conc E := fun t => by rw [← hf.eval]; rfl
  cases x with
  | tmp t =>
    simp only [resA, R.gives] at hg
    subst hg
    refine ⟨?_, hf.opnd_ref (.tmp t), hf.opnd_ok (.tmp t)⟩
    simp only [resOne, Sem.run_pure, ev]
    rfl
  | cell y t =>
    simp only [resA] at hg
    split at hg
    · rename_i l o hy
      split at hg
      · rename_i B hl
        obtain ⟨h1, h2, h3⟩ := load_run (P := P) (.inl ⟨o, rfl⟩) hg (h.rep l B hl) (h.ok l B hl)
        refine ⟨?_, h2, h3⟩
        have e1 : a.tmps.getD y undef = .pointer (some ⟨E.blk l, o, none⟩) := by
          rw [ev]
          show (σ.fr.getD y undefA).conc E = _
          rw [hy]
          rfl
        simp only [SV.conc, Instr.loadAt, Instr.sureAddr, Sem.run_bind, Sem.run_pure, Result.andThen_ok] at h1
        simp only [resOne, e1, asAddr, Sem.run_bind, Sem.run_pure, Result.andThen_ok, h1]
      · cases hg
    · cases hg

theorem res_sat (h : HRep E σ.H w) (hf : FRep E σ.H.length σ.fr a) {β : Type} {Q : β → Prop} : ∀ {rs : List ResultVar} {k : List EV → T β}, (resT P σ rs k).sat P Q →
    ∃ vs : List EV, (rs.mapM (resOne a.tmps)).run P w = .ok (vs.map (EV.conc E)) w ∧
      (∀ v ∈ vs, v.ref ≤ σ.H.length ∧ (AV.e v).ok E) ∧ (k vs).sat P Q
  | [], k, hq => ⟨[], rfl, by simp, hq⟩
  | x :: rs, k, hq => by
    unfold resT at hq
    obtain ⟨v, hv, hq⟩ := R.sat_then hq
    obtain ⟨h1, h2, h3⟩ := run_resA h hf hv
    cases v with
    | tup vs => exact hq.elim
    | e y =>
      obtain ⟨vs, h4, h5, h6⟩ := res_sat h hf (rs := rs) hq
      refine ⟨y :: vs, ?_, ?_, h6⟩
      · rw [List.mapM_cons]
        simp only [Sem.run_bind, h1, Result.andThen_ok, h4, Sem.run_pure, List.map_cons]
        rfl
      · intro v hv
        rcases List.mem_cons.1 hv with rfl | hv
        · exact ⟨h2, h3⟩
        · exact h5 v hv

theorem ret_sat (hfn : Func) {n0 : Nat} {E0 : Env} {H0 : Heap} {w0 : World} (hst : Step n0 E0 H0 w0 E σ.H w) (hf : FRep E σ.H.length σ.fr a) {β : Type} {Q : β → Prop} {k : AV → Heap → T β} (hq : (retT P hfn n0 σ k).sat P Q) :
    ∃ (r : AV) (H' : Heap), (results hfn a.tmps).run P w = .ok (r.conc E) w ∧ Step n0 E0 H0 w0 E H' w ∧ r.ref ≤ H'.length ∧ r.ok E ∧ (k r H').sat P Q := by
  unfold retT at hq
  obtain ⟨vs, h1, h2, h3⟩ := res_sat hst.rep hf hq
  have hrun : (results hfn a.tmps).run P w = .ok (resV E vs) w := by
    rw [results_eq, Array.mapM_eq_mapM_toList]
    simp only [resV, Sem.run_bind, Sem.run_map, h1, Result.andThen_ok, Sem.run_pure]
    cases vs with
    | nil => rfl
    | cons x xs => cases xs with
      | nil => rfl
      | cons y ys => simp
  cases vs with
  | nil =>
    obtain ⟨t1, t2⟩ := step_trim (r := .tup []) hst (Nat.zero_le _)
    exact ⟨.tup [], _, hrun, t1, t2, undef_ok, h3⟩
  | cons x xs => cases xs with
    | nil =>
      obtain ⟨t1, t2⟩ := step_trim (r := .e x) hst (h2 x (by simp)).1
      exact ⟨.e x, _, hrun, t1, t2, (h2 x (by simp)).2, h3⟩
    | cons y ys =>
      have hr : (AV.tup (x :: y :: ys)).ref ≤ σ.H.length := tup_ref.2 fun z hz => (h2 z hz).1
      obtain ⟨t1, t2⟩ := step_trim (r := .tup (x :: y :: ys)) hst hr
      refine ⟨.tup (x :: y :: ys), _, hrun, t1, t2, ?_, h3⟩
      intro z hz
      simp only [AV.svs, List.mem_flatMap] at hz
      obtain ⟨v, hv, hz⟩ := hz
      exact (h2 v hv).2 z hz

end

/-! ### Calls -/

structure EntOk (P : Program) (ent : Nat → Ent) : Prop where
  summ : ∀ f g, ent f = .summ g → ∀ args H Q, (g args H).sat P Q → CallsA P f args H fun r H' => Q (r, H')
  body : ∀ (f : Nat) ord un (fn : Func) (c : Code), ent f = .body ord un → P.funcs[f]? = some fn → fn.body = some c → codeB ord c = true

theorem call_sat (hP : Fine P) {ent : Nat → Ent} (hE : EntOk P ent) : ∀ m, ClOk P (callT (α := α) P ent m) Q0
  | 0, f, args, H, k, hq => hq
  | m + 1, f, args, H, k, hq => by
    unfold callT at hq
    split at hq
    · exact hq
    · rename_i g hg
      exact (hE.summ f g hg args H _ (T.sat_bind hq)).mono fun _ _ h => h
    · rename_i ord un hg
      split at hq
      · rename_i fn hfn
        split at hq
        · rename_i c hc
          intro E w h hargs
          have hB := hE.body f ord un fn c hg hfn hc
          refine calls_of_wp hfn hc (wp_mono (code_sat hP (call_sat hP hE m) c E ⟨args ++ List.replicate (fn.ntmps - args.length) undefA, H⟩ _ w _ hB h ⟨?_, ?_, ?_, rfl⟩ (Nat.le_refl _) hq) ?_)
          · simp [AV.conc, undef]
          · intro x hx
            rcases List.mem_append.1 hx with hx | hx
            · exact (hargs x hx).1
            · rw [List.eq_of_mem_replicate hx]; exact Nat.zero_le _
          · intro x hx
            rcases List.mem_append.1 hx with hx | hx
            · exact (hargs x hx).2
            · rw [List.eq_of_mem_replicate hx]; exact undef_ok
          · rintro e a' w' ⟨σ', E', h1, h2, h3⟩
            cases e with
            | normal =>
              obtain ⟨r, H', g1, g2, g3, g4, g5⟩ := ret_sat fn h1 h2 h3
              exact ⟨h2.defers, _, g1, r, H', E', rfl, g2, g3, g4, g5⟩
            | ret =>
              obtain ⟨r, H', g1, g2, g3, g4, g5⟩ := ret_sat fn h1 h2 h3
              exact ⟨h2.defers, _, g1, r, H', E', rfl, g2, g3, g4, g5⟩
            | exit id => exact h3.elim
            | goto l => exact h3.elim
            | panic ch => exact h3.elim
            | outgrown => exact h3.elim
        · exact hq.elim
      · exact hq.elim

end
end Go.Proofs.Ythckkoledhjmeaa.Ev
