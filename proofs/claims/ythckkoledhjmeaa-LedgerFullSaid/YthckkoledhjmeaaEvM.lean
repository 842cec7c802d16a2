/-
  The abstract evaluator: regions that have many orders, by one order that is held against them.
-/
import Derived.Test.YthckkoledhjmeaaEvL
namespace Go.Proofs.Ythckkoledhjmeaa.Ev
open Go

/-- What a load that was taken first asks: its block is as it was. -/
def HoldsW (x : Wa) (E : Env) (n : Nat) (S : World → Prop) : Prop :=
  ∀ (E' : Env) (H' : Heap) (w' : World), Env.Agree n E E' → n ≤ H'.length → HRep E' H' w' → H'[x.l]? = some x.B → S w'

def WInv (F : Nat → Bool) (ops : Array Oper) (Γ : List Wc) (ws : List Wa) (listed : Array Bool) (E : Env) (n : Nat) : Prop :=
  ∀ p ∈ Γ, (∀ w, p.2 w) ∨ (∃ x ∈ ws, x.i = p.1 ∧ HoldsW x E n p.2) ∨ (∃ k, F k = true ∧ listed.getD k false = true ∧ Dep ops p.1 k)

def Closed (ops : Array Oper) (listed : Array Bool) : Prop :=
  ∀ k, listed.getD k false = true → ∀ o, ops[k]? = some o → ∀ e ∈ o.after, Region.binds .any e = true → listed.getD e.on false = true

section
variable {P : Program} {ops : Array Oper} {F : Nat → Bool} {Γ : List Wc} {E : Env} {H : Heap} {fr : List AV} {a : Act} {w : World} {α : Type} {cl : Cl α} {Q0 : α → Prop}

theorem HoldsW.step {x : Wa} {S : World → Prop} {n : Nat} {E' : Env} {n' : Nat} (h : HoldsW x E n S) (hE : Env.Agree n E E') (hn : n ≤ n') : HoldsW x E' n' S :=
  fun E'' H'' w'' hE' hn' hr hl => h E'' H'' w'' (hE.trans (hE'.mono hn)) (Nat.le_trans hn hn') hr hl

theorem Closed.set {listed : Array Bool} (h : Closed ops listed) {i : Nat} (hi : i ∈ Region.ready .any ops listed) : Closed ops (listed.setIfInBounds i true) := by
  intro k hk o ho e he hb
  by_cases hki : i = k
  · subst hki
    obtain ⟨_, o', ho', hall⟩ := mem_ready.1 hi
    rw [ho] at ho'
    cases ho'
    exact getD_keep (hall e he hb)
  · rw [getD_set_ne false hki] at hk
    exact getD_keep (h k hk o ho e he hb)

theorem Closed.free {listed : Array Bool} (h : Closed ops listed) {i : Nat} (hi : listed.getD i false = false) {k : Nat} (hk : listed.getD k false = true) : ¬ Dep ops i k := by
  intro hd
  induction hd with
  | one ho he hb hh => have := h _ hk _ ho _ he hb; rw [hh, hi] at this; cases this
  | more ho he hb hd ih => exact ih (h _ hk _ ho _ he hb)

theorem ready_un {listed : Array Bool} {i : Nat} (hi : i ∈ Region.ready .any ops listed) : listed.getD i false = false := by
  have h := (mem_ready.1 hi).1
  rcases Nat.lt_or_ge i listed.size with h' | h'
  · simp [h'] at h ⊢; exact h
  · simp [Array.getElem?_eq_none h']

theorem ready_get {listed : Array Bool} {i : Nat} (hi : i ∈ Region.ready .any ops listed) : (listed.setIfInBounds i true).getD i false = true := by
  have h := (mem_ready.1 hi).1
  rcases Nat.lt_or_ge i listed.size with h' | h'
  · simp [h']
  · simp [Array.getElem?_eq_none h'] at h

theorem keep_sat {β : Type} {Q : β → Prop} {ds : List Nat} {H : Heap} : ∀ {ws : List Wa} {k : List Wa → T β}, (keepT ds ws H k).sat P Q →
    ∃ ws', (∀ x ∈ ws, (x ∈ ws' ∧ H[x.l]? = some x.B) ∨ ds.contains x.i = true) ∧ (∀ x ∈ ws', x ∈ ws) ∧ (k ws').sat P Q
  | [], k, h => ⟨[], by simp, by simp, h⟩
  | x :: ws, k, h => by
    unfold keepT at h
    split at h
    · rename_i hd
      obtain ⟨ws', h1, h2, h3⟩ := keep_sat h
      refine ⟨ws', fun y hy => ?_, fun y hy => List.mem_cons_of_mem _ (h2 y hy), h3⟩
      rcases List.mem_cons.1 hy with rfl | hy
      · exact .inr hd
      · exact h1 y hy
    · obtain ⟨h0, h⟩ := h
      obtain ⟨ws', h1, h2, h3⟩ := keep_sat (k := fun ws' => k (x :: ws')) h
      refine ⟨x :: ws', fun y hy => ?_, fun y hy => ?_, h3⟩
      · rcases List.mem_cons.1 hy with rfl | hy
        · exact .inl ⟨List.mem_cons_self, h0⟩
        · rcases h1 y hy with ⟨h4, h5⟩ | h4
          · exact .inl ⟨List.mem_cons_of_mem _ h4, h5⟩
          · exact .inr h4
      · rcases List.mem_cons.1 hy with rfl | hy
        · exact List.mem_cons_self
        · exact List.mem_cons_of_mem _ (h2 y hy)

/-- What stands where the region ends. -/
def RegQ (E0 : Env) (H0 : Heap) (w0 : World) (R : St → Prop) (e : Exit) (a' : Act) (w' : World) : Prop :=
  ∃ (σ' : St) (E' : Env), e = .normal ∧ Step H0.length E0 H0 w0 E' σ'.H w' ∧ FRep E' σ'.H.length σ'.fr a' ∧ R σ'

/-- A state within a region. -/
structure At (P : Program) (ops : Array Oper) (F : Nat → Bool) (E0 : Env) (H0 : Heap) (w0 : World) (Γ : List Wc) (listed : Array Bool) (ws : List Wa) (σ : St) (E : Env) (a : Act) (w : World) : Prop where
  step : Step H0.length E0 H0 w0 E σ.H w
  fr : FRep E σ.H.length σ.fr a
  closed : Closed ops listed
  winv : WInv F ops Γ ws listed E σ.H.length
  gd : Gd F ops Γ listed w

theorem ord_force (hP : Fine P) {E0 : Env} {H0 : Heap} {w0 : World} {R : St → Prop} {listed : Array Bool} {ws : List Wa} {σ : St} (hat : At P ops F E0 H0 w0 Γ listed ws σ E a w) (hc : ClOk P cl Q0)
    {i : Nat} (hi : i ∈ Region.ready .any ops listed) (hF : F i = true) {ds : List (List Nat)} (hds : ds.all (chainB ops i) = true) {k : List Wa → St → T α} {n : Nat}
    (hq : (forceT P cl ops i ds ws σ k).sat P Q0)
    (hk : ∀ (ws' : List Wa) (σ' : St) (E' : Env) (a' : Act) (w' : World), At P ops F E0 H0 w0 Γ (listed.setIfInBounds i true) ws' σ' E' a' w' → (k ws' σ').sat P Q0 → wpAnyG P ops (RegQ E0 H0 w0 R) F Γ n (listed.setIfInBounds i true) a' w') :
    wpOp P ops (RegQ E0 H0 w0 R) i (fun a' w' => Gd F ops Γ (listed.setIfInBounds i true) w' ∧ wpAnyG P ops (RegQ E0 H0 w0 R) F Γ n (listed.setIfInBounds i true) a' w') a w := by
  obtain ⟨hst, hfr, hcl, hwi, hgd⟩ := hat
  obtain ⟨_, o, ho, _⟩ := mem_ready.1 hi
  unfold forceT at hq
  simp only [ho] at hq
  unfold wpOp
  simp only [ho]
  cases hg : guardA ops σ.fr o.guard with
  | dyn b want => rw [hg] at hq; exact hq.elim
  | no =>
    rw [hg] at hq
    rw [if_neg (by rw [guard_no hfr hg]; simp)]
    refine ⟨hgd.keep, hk ws ⟨put σ.fr o.dst undefA, σ.H⟩ E _ w ⟨hst, hfr.put _ _ (Nat.zero_le _) undef_ok, hcl.set hi, fun p hp => ?_, hgd.keep⟩ hq⟩
    rcases hwi p hp with h1 | h1 | ⟨k, h1, h2, h3⟩
    · exact .inl h1
    · exact .inr (.inl h1)
    · exact .inr (.inr ⟨k, h1, getD_keep h2, h3⟩)
  | yes =>
    rw [hg] at hq
    rw [if_pos (guard_yes hfr hg)]
    refine .inl (Oper.wp_mono ?_ (op_left hP hc hst.rep hfr hq))
    rintro a' w' ⟨v, H', E', rfl, hst', g2, g3, hq'⟩
    obtain ⟨ws', h1, h2, h3⟩ := keep_sat hq'
    have hgi := ready_get hi
    have hwi' : WInv F ops Γ ws' (listed.setIfInBounds i true) E' H'.length := by
      intro p hp
      rcases hwi p hp with h4 | ⟨x, hx, h4, h5⟩ | ⟨k, h4, h5, h6⟩
      · exact .inl h4
      · rcases h1 x hx with ⟨h6, _⟩ | h6
        · exact .inr (.inl ⟨x, h6, h4, h5.step hst'.agree hst'.len⟩)
        · refine .inr (.inr ⟨i, hF, hgi, ?_⟩)
          rw [← h4]
          simp only [List.contains_eq_mem, decide_eq_true_eq, List.mem_map] at h6
          obtain ⟨d, hd, h6⟩ := h6
          rw [← h6]
          exact chain_dep (List.all_eq_true.1 hds d hd)
      · exact .inr (.inr ⟨k, h4, getD_keep h5, h6⟩)
    have hgd' : Gd F ops Γ (listed.setIfInBounds i true) w' := by
      intro p hp hk'
      rcases hwi p hp with h4 | ⟨x, hx, h4, h5⟩ | ⟨k, h4, h5, h6⟩
      · exact h4 _
      · rcases h1 x hx with ⟨_, h6⟩ | h6
        · exact h5 E' H' w' hst'.agree hst'.len hst'.rep h6
        · exfalso
          refine hk' i hF hgi ?_
          rw [← h4]
          simp only [List.contains_eq_mem, decide_eq_true_eq, List.mem_map] at h6
          obtain ⟨d, hd, h6⟩ := h6
          rw [← h6]
          exact chain_dep (List.all_eq_true.1 hds d hd)
      · exact absurd h6 (hk' k h4 (getD_keep h5))
    exact ⟨hgd', hk ws' ⟨put σ.fr o.dst v, H'⟩ E' _ w' ⟨hst.trans hst' hst.len, hfr.left hst' g2 g3, hcl.set hi, hwi', hgd'⟩ h3⟩

theorem ord_sat (hP : Fine P) {E0 : Env} {H0 : Heap} {w0 : World} {R : St → Prop} {k : St → T α} (hc : ClOk P cl Q0) (hR : ∀ σ, (k σ).sat P Q0 → R σ) (hsel : Region.noSelect ops = true) {Fl : List Nat} :
    ∀ (c : Ct) (n : Nat) (listed : Array Bool) (ws : List Wa) (σ : St) (E : Env) (a : Act) (w : World) (Γ : List Wc), ordB ops Fl n listed c = true → At P ops (fun i => Fl.contains i) E0 H0 w0 Γ listed ws σ E a w →
      (regD P cl ops c ws σ k).sat P Q0 → wpAnyG P ops (RegQ E0 H0 w0 R) (fun i => Fl.contains i) Γ n listed a w := by
  intro c
  induction c with
  | done =>
    intro n listed ws σ E a w Γ ho hat hq
    have hr : Region.ready .any ops listed = [] := by cases n <;> simpa [ordB] using ho
    have hQ : RegQ E0 H0 w0 R .normal a w := ⟨σ, E, rfl, hat.step, hat.fr, hR _ hq⟩
    cases n with
    | zero => exact ⟨hr, hQ⟩
    | succ n => exact ⟨fun _ => hQ, by rw [hr]; simp⟩
  | take i c ih =>
    intro n listed ws σ E a w Γ ho hat hq
    cases n with
    | zero => simp [ordB] at ho
    | succ n =>
      simp only [ordB, Bool.and_eq_true] at ho
      obtain ⟨⟨⟨h1, h2⟩, h3⟩, h4⟩ := ho
      have hi : i ∈ Region.ready .any ops listed := by simpa using h3
      have hF : Fl.contains i = false := by simpa using h1
      obtain ⟨_, o, hoi, _⟩ := mem_ready.1 hi
      have hst := hat.step
      have hfr := hat.fr
      have hwi := hat.winv
      have hQp : ∀ (v : Value) c (a : Act) w, RegQ E0 H0 w0 R (.panic c) (a.put o.dst v) w → RegQ E0 H0 w0 R (.panic c) a w := by
        rintro v c a w ⟨_, _, h, _⟩; cases h
      -- the step, by what it yields
      have go : ∀ (v : AV) (S : World → Prop) (ws' : List Wa), (∀ x ∈ ws, x ∈ ws') → ((∀ w, S w) ∨ ∃ x ∈ ws', x.i = i ∧ HoldsW x E σ.H.length S) → YieldsIf P ops S o (v.conc E) a → S w → v.ref ≤ σ.H.length → v.ok E →
          (regD P cl ops c ws' ⟨put σ.fr o.dst v, σ.H⟩ k).sat P Q0 → wpAnyG P ops (RegQ E0 H0 w0 R) (fun i => Fl.contains i) Γ (n + 1) listed a w := by
        intro v S ws' hsub hS hy hSw g2 g3 hq'
        refine wpAnyG_first (S := S) hoi (Region.noSelect_spec hsel) (hQp _) hF n listed a w (Region.free_spec hoi h2) hi (fun k hk => hat.closed.free (ready_un hi) hk) hy hSw hat.gd ?_
        refine ih n _ ws' ⟨put σ.fr o.dst v, σ.H⟩ E _ w _ h4 ⟨hst, hfr.put _ _ g2 g3, hat.closed.set hi, ?_, ?_⟩ hq'
        · intro p hp
          rcases List.mem_cons.1 hp with rfl | hp
          · rcases hS with hS | hS
            · exact .inl hS
            · exact .inr (.inl hS)
          · rcases hwi p hp with h5 | ⟨x, hx, h5, h6⟩ | ⟨k, h5, h6, h7⟩
            · exact .inl h5
            · exact .inr (.inl ⟨x, hsub x hx, h5, h6⟩)
            · exact .inr (.inr ⟨k, h5, getD_keep h6, h7⟩)
        · intro p hp hk'
          rcases List.mem_cons.1 hp with rfl | hp
          · exact hSw
          · exact hat.gd.keep p hp hk'
      unfold regD at hq
      simp only [hoi] at hq
      cases hg : guardA ops σ.fr o.guard with
      | dyn b want => rw [hg] at hq; exact hq.elim
      | no =>
        rw [hg] at hq
        exact go undefA (fun _ => True) ws (fun _ h => h) (.inl fun _ => trivial) (.inr ⟨guard_no hfr hg, rfl⟩) trivial (Nat.zero_le _) undef_ok hq
      | yes =>
        rw [hg] at hq
        have hw := guard_yes hfr hg
        have pure : ∀ r, pureA P σ.fr o.op = r → (r.then fun v => regD P cl ops c ws ⟨put σ.fr o.dst v, σ.H⟩ k).sat P Q0 → wpAnyG P ops (RegQ E0 H0 w0 R) (fun i => Fl.contains i) Γ (n + 1) listed a w := by
          intro r hr hq
          obtain ⟨v, h5, h6⟩ := Ev.R.sat_then hq
          obtain ⟨g1, g2, g3⟩ := pure_gives hfr o v (by rw [hr]; exact h5)
          exact go v (fun _ => True) ws (fun _ h => h) (.inl fun _ => trivial) (.inl ⟨hw, fun w' _ => g1 w'⟩) trivial g2 g3 h6
        cases hp : pureA P σ.fr o.op with
        | v x => rw [hp] at hq; exact pure _ hp hq
        | b t => rw [hp] at hq; exact pure _ hp hq
        | need p r => rw [hp] at hq; exact pure _ hp hq
        | bad =>
          simp only [hp] at hq
          cases hr : readA P σ.fr o.op with
          | none => simp only [hr] at hq; exact hq.elim
          | «at» l r =>
            simp only [hr] at hq
            cases hl : σ.H[l]? with
            | none => rw [hl] at hq; exact hq.elim
            | some B =>
              rw [hl] at hq
              obtain ⟨v, h5, h6⟩ := Ev.R.sat_then hq
              obtain ⟨g1, g2, g3⟩ := read_gives hfr o hr h5 (hst.rep.rep l B hl) (hst.rep.ok l B hl)
              refine go v (fun w' => (execOp a.eval o).run P w' = .ok (.value (v.conc E)) w') (⟨i, l, B⟩ :: ws) (fun _ h => List.mem_cons_of_mem _ h) (.inr ⟨_, List.mem_cons_self, rfl, ?_⟩) (.inl ⟨hw, fun _ h => h⟩) g1 g2 g3 h6
              intro E' H' w' hE hn hrep hl'
              obtain ⟨g4, _, _⟩ := read_gives (hfr.agree hE hn) o hr h5 (hrep.rep l B hl') (hrep.ok l B hl')
              rw [g4, AV.conc_agree hE g2]
  | force i ds c ih =>
    intro n listed ws σ E a w Γ ho hat hq
    cases n with
    | zero => simp [ordB] at ho
    | succ n =>
      simp only [ordB, Bool.and_eq_true] at ho
      obtain ⟨⟨⟨h1, h2⟩, h3⟩, h4⟩ := ho
      have hr : Region.ready .any ops listed = [i] := by simpa using h2
      refine ⟨fun h => (by rw [hr] at h; cases h), fun j hj => ?_⟩
      have hji : j = i := by rw [hr] at hj; simpa using hj
      subst hji
      unfold regD at hq
      exact ord_force hP hat hc hj h1 h3 hq fun ws' σ' E' a' w' hat' hq' => ih n _ ws' σ' E' a' w' Γ h4 hat' hq'
  | two i di ci j dj cj ihi ihj =>
    intro n listed ws σ E a w Γ ho hat hq
    cases n with
    | zero => simp [ordB] at ho
    | succ n =>
      simp only [ordB, Bool.and_eq_true] at ho
      obtain ⟨⟨⟨⟨⟨⟨h1, h2⟩, h3⟩, h4⟩, h5⟩, h6⟩, h7⟩ := ho
      have hr : Region.ready .any ops listed = [i, j] := by simpa using h3
      unfold regD at hq
      refine ⟨fun h => (by rw [hr] at h; cases h), fun x hx => ?_⟩
      have hxx : x = i ∨ x = j := by rw [hr] at hx; simpa using hx
      rcases hxx with rfl | rfl
      · exact ord_force hP hat hc hx h1 h4 hq.1 fun ws' σ' E' a' w' hat' hq' => ihi n _ ws' σ' E' a' w' Γ h6 hat' hq'
      · exact ord_force hP hat hc hx h2 h5 hq.2 fun ws' σ' E' a' w' hat' hq' => ihj n _ ws' σ' E' a' w' Γ h7 hat' hq'

/-- A region that draws. -/
theorem regD_sat (hP : Fine P) {σ : St} {k : St → T α} (hc : ClOk P cl Q0) {id : Nat} {c : Ct} (hB : regB ops c = true) (h : HRep E σ.H w) (hf : FRep E σ.H.length σ.fr a) (hq : (regD P cl ops c [] σ k).sat P Q0) :
    (Code.region id ops true).wp P (RegQ E σ.H w fun σ' => (k σ').sat P Q0) a w := by
  simp only [regB, Bool.and_eq_true] at hB
  refine wp_region_any hP.mixed (wpAny_of_G (Γ := []) (F := fun i => c.forced.contains i) _ _ _ _ (ord_sat hP hc (fun _ h => h) hB.1 c _ _ [] σ E a _ [] hB.2 ⟨?_, hf, ?_, ?_, ?_⟩ hq))
  · exact ⟨.refl _ _, Nat.le_refl _, ⟨fun l B hl => (h.rep l B hl).kept fun _ => rfl, h.ok, h.inj, h.ro⟩, rfl, rfl, rfl, Nat.le_refl _, fun _ _ _ => rfl, fun _ _ h => h⟩
  · intro k hk
    simp [Array.getD] at hk
  · intro p hp; cases hp
  · intro p hp; cases hp

end
end Go.Proofs.Ythckkoledhjmeaa.Ev
