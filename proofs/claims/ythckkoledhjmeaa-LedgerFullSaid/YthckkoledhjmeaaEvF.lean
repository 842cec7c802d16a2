/-
  The abstract evaluator: steps from a heap to a heap; what trees of decisions say.
-/
import Derived.Test.YthckkoledhjmeaaEvE
namespace Go.Proofs.Ythckkoledhjmeaa.Ev
open Go

structure Step (n0 : Nat) (E : Env) (H : Heap) (w : World) (E' : Env) (H' : Heap) (w' : World) : Prop where
  agree : Env.Agree n0 E E'
  len : n0 ≤ H'.length
  rep : HRep E' H' w'
  os : w'.os = w.os
  tape : w'.tape = w.tape
  output : w'.output = w.output
  size : w.heap.size ≤ w'.heap.size
  frame : ∀ b, b < w.heap.size → ¬ Im E H b → w'.heap[b]? = w.heap[b]?
  im : ∀ b, b < w.heap.size → Im E' H' b → Im E H b

theorem Step.refl {n0 : Nat} {E : Env} {H : Heap} {w : World} (h : HRep E H w) (hn : n0 ≤ H.length) : Step n0 E H w E H w :=
  ⟨.refl _ _, hn, h, rfl, rfl, rfl, Nat.le_refl _, fun _ _ _ => rfl, fun _ _ h => h⟩

theorem Step.trans {n0 n1 : Nat} {E E' E'' : Env} {H H' H'' : Heap} {w w' w'' : World} (h : Step n0 E H w E' H' w') (k : Step n1 E' H' w' E'' H'' w'') (hn : n0 ≤ n1) : Step n0 E H w E'' H'' w'' :=
  ⟨h.agree.trans (k.agree.mono hn), Nat.le_trans hn k.len, k.rep, k.os.trans h.os, k.tape.trans h.tape, k.output.trans h.output, Nat.le_trans h.size k.size,
    fun b hb hi => (k.frame b (Nat.lt_of_lt_of_le hb h.size) (fun hi' => hi (h.im b hb hi'))).trans (h.frame b hb hi),
    fun b hb hi => h.im b hb (k.im b (Nat.lt_of_lt_of_le hb h.size) hi)⟩

theorem Step.mono {n0 n1 : Nat} {E E' : Env} {H H' : Heap} {w w' : World} (h : Step n1 E H w E' H' w') (hn : n0 ≤ n1) : Step n0 E H w E' H' w' :=
  ⟨h.agree.mono hn, Nat.le_trans hn h.len, h.rep, h.os, h.tape, h.output, h.size, h.frame, h.im⟩

section
variable {P : Program} {E E' : Env} {H : Heap} {w w' : World}

theorem get_push {H : Heap} {B : AB} {l : Nat} {C : AB} (h : (H ++ [B])[l]? = some C) : (l < H.length ∧ H[l]? = some C) ∨ (l = H.length ∧ B = C) := by
  rcases Nat.lt_trichotomy l H.length with hl | hl | hl
  · rw [List.getElem?_append_left hl] at h; exact .inl ⟨hl, h⟩
  · subst hl; simp at h; exact .inr ⟨rfl, h⟩
  · rw [List.getElem?_eq_none (by simp; omega)] at h; cases h

theorem lt_of_get {H : Heap} {l : Nat} {B : AB} (h : H[l]? = some B) : l < H.length := (List.getElem?_eq_some_iff.1 h).1

theorem ro_lt {l k n : Nat} {g : Nat → List Value} (h : BRep E w l (.ro k n g)) (hn : E.nil l = false) : E.blk l < w.heap.size := (RoR.mem h hn).1

/-- A new block. -/
theorem step_push (h : HRep E H w) {B : AB} (hE : Env.Agree H.length E E') (hblk : B.own (E'.nil H.length) = true → w.heap.size ≤ E'.blk H.length) (hB : BRep E' w' H.length B) (hok : BOk E' (H.length + 1) B)
    (hro : ∀ k n g, B ≠ .ro k n g) (hw : ∀ b, b < w.heap.size → w'.heap[b]? = w.heap[b]?) (hs : w.heap.size ≤ w'.heap.size) (h1 : w'.os = w.os) (h2 : w'.tape = w.tape) (h3 : w'.output = w.output) :
    Step H.length E H w E' (H ++ [B]) w' := by
  have old : ∀ b, b < w.heap.size → Im E' (H ++ [B]) b → Im E H b := by
    rintro b hb ⟨l, C, hl, ho, rfl⟩
    rcases get_push hl with ⟨hlt, hl⟩ | ⟨rfl, rfl⟩
    · exact ⟨l, C, hl, by rw [← hE.nil l hlt]; exact ho, (hE.blk l hlt).symm⟩
    · have := hblk ho; omega
  refine ⟨hE, by simp, ⟨fun l C hl => ?_, fun l C hl => ?_, fun l l' C C' hl hl' ho ho' he => ?_, fun l k n g hl hn hi => ?_⟩, h1, h2, h3, hs, fun b hb _ => hw b hb, old⟩
  · rcases get_push hl with ⟨hlt, hl⟩ | ⟨rfl, rfl⟩
    · have hr := h.rep l C hl
      refine BRep.agree hE hlt (h.ok l C hl) (hr.kept fun hc => ?_)
      rcases hc with ho | ⟨⟨k, m, g, rfl⟩, hn⟩
      · exact hw _ (hr.lt ho)
      · exact hw _ (ro_lt hr hn)
    · exact hB
  · rcases get_push hl with ⟨hlt, hl⟩ | ⟨rfl, rfl⟩
    · exact (h.ok l C hl).agree hE (by simp)
    · simpa using hok
  · rcases get_push hl with ⟨hlt, hl⟩ | ⟨rfl, rfl⟩ <;> rcases get_push hl' with ⟨hlt', hl'⟩ | ⟨rfl, rfl⟩
    · rw [hE.nil l hlt] at ho
      rw [hE.nil l' hlt'] at ho'
      exact h.inj l l' C C' hl hl' ho ho' (by rw [← hE.blk l hlt, ← hE.blk l' hlt', he])
    · rw [hE.nil l hlt] at ho
      have h4 := (h.rep l C hl).lt ho
      have h5 := hblk ho'
      rw [← he, hE.blk l hlt] at h5
      omega
    · rw [hE.nil l' hlt'] at ho'
      have h4 := (h.rep l' C' hl').lt ho'
      have h5 := hblk ho
      rw [he, hE.blk l' hlt'] at h5
      omega
    · rfl
  · rcases get_push hl with ⟨hlt, hl⟩ | ⟨rfl, rfl⟩
    · rw [hE.nil l hlt] at hn
      rw [hE.blk l hlt] at hi
      exact h.ro l k n g hl hn (old _ (ro_lt (h.rep l _ hl) hn) hi)
    · exact hro k n g rfl

theorem get_set {H : Heap} {l l' : Nat} {B C : AB} (h : (H.set l B)[l']? = some C) : (l' ≠ l ∧ H[l']? = some C) ∨ (l' = l ∧ B = C ∧ l < H.length) := by
  rw [List.getElem?_set] at h
  by_cases he : l = l'
  · subst he
    by_cases hl : l < H.length
    · simp [hl] at h; exact .inr ⟨rfl, h, hl⟩
    · simp [hl] at h
  · rw [if_neg he] at h; exact .inl ⟨Ne.symm he, h⟩

/-- A block of the call's own holds something else; or it is gone. -/
theorem step_set (h : HRep E H w) {l : Nat} {B0 B : AB} (hl : H[l]? = some B0) (ho : B0.own (E.nil l) = true) (hB : BRep E w' l B) (hok : BOk E H.length B) (hro : ∀ k n g, B ≠ .ro k n g)
    (hw : ∀ b, b ≠ E.blk l → w'.heap[b]? = w.heap[b]?) (hs : w'.heap.size = w.heap.size) (h1 : w'.os = w.os) (h2 : w'.tape = w.tape) (h3 : w'.output = w.output) :
    Step H.length E H w E (H.set l B) w' := by
  have old : ∀ b, Im E (H.set l B) b → Im E H b := by
    rintro b ⟨l', C, hl', hc, rfl⟩
    rcases get_set hl' with ⟨_, hl'⟩ | ⟨rfl, rfl, _⟩
    · exact ⟨l', C, hl', hc, rfl⟩
    · exact ⟨l', B0, hl, ho, rfl⟩
  have him : Im E H (E.blk l) := ⟨l, B0, hl, ho, rfl⟩
  refine ⟨.refl _ _, by simp, ⟨fun l' C hl' => ?_, fun l' C hl' => ?_, fun l1 l2 C1 C2 hl1 hl2 ho1 ho2 he => ?_, fun l' k n g hl' hn hi => ?_⟩, h1, h2, h3, by omega, fun b hb hi => hw b fun e => hi (e ▸ him), fun b _ => old b⟩
  · rcases get_set hl' with ⟨hne, hl'⟩ | ⟨rfl, rfl, _⟩
    · refine (h.rep l' C hl').kept fun hc => hw _ fun e => ?_
      rcases hc with hc | ⟨⟨k, m, g, rfl⟩, hn⟩
      · exact hne (h.inj l' l C B0 hl' hl hc ho e)
      · exact h.ro l' k m g hl' hn (e ▸ him)
    · exact hB
  · rw [List.length_set]
    rcases get_set hl' with ⟨hne, hl'⟩ | ⟨rfl, rfl, _⟩
    · exact h.ok l' C hl'
    · exact hok
  · rcases get_set hl1 with ⟨hne1, hg1⟩ | ⟨e1, _, _⟩ <;> rcases get_set hl2 with ⟨hne2, hg2⟩ | ⟨e2, _, _⟩
    · exact h.inj l1 l2 C1 C2 hg1 hg2 ho1 ho2 he
    · rw [e2] at he ⊢; exact h.inj l1 l C1 B0 hg1 hl ho1 ho he
    · rw [e1] at he ⊢; exact h.inj l l2 B0 C2 hl hg2 ho ho2 he
    · rw [e1, e2]
  · rcases get_set hl' with ⟨hne, hl'⟩ | ⟨rfl, rfl, _⟩
    · exact h.ro l' k n g hl' hn (old _ hi)
    · exact hro k n g rfl

/-- A row moves on: its block of memory is another abstract block's from here on. -/
theorem step_move (h : HRep E H w) {l : Nat} {B0 B : AB} (hl : H[l]? = some B0) (ho : B0.own (E.nil l) = true) (hE : Env.Agree H.length E E') (hblk : E'.blk H.length = E.blk l) (hB : BRep E' w' H.length B) (hok : BOk E' (H.length + 1) B)
    (hro : ∀ k n g, B ≠ .ro k n g) (hw : ∀ b, b ≠ E.blk l → w'.heap[b]? = w.heap[b]?) (hs : w'.heap.size = w.heap.size) (h1 : w'.os = w.os) (h2 : w'.tape = w.tape) (h3 : w'.output = w.output) :
    Step H.length E H w E' (H.set l .dead ++ [B]) w' := by
  have hlt : l < H.length := lt_of_get hl
  have hlen : (H.set l .dead).length = H.length := by simp
  have get : ∀ {l' : Nat} {C : AB}, (H.set l .dead ++ [B])[l']? = some C → (l' < H.length ∧ l' ≠ l ∧ H[l']? = some C) ∨ (l' = l ∧ C = .dead) ∨ (l' = H.length ∧ B = C) := by
    intro l' C hc
    rcases get_push hc with ⟨h5, h6⟩ | ⟨h5, h6⟩
    · rcases get_set h6 with ⟨h7, h8⟩ | ⟨h7, h8, _⟩
      · exact .inl ⟨by omega, h7, h8⟩
      · exact .inr (.inl ⟨h7, h8.symm⟩)
    · exact .inr (.inr ⟨by omega, h6⟩)
  have him : Im E H (E.blk l) := ⟨l, B0, hl, ho, rfl⟩
  have old : ∀ b, Im E' (H.set l .dead ++ [B]) b → Im E H b := by
    rintro b ⟨l', C, hl', hc, rfl⟩
    rcases get hl' with ⟨h5, _, h6⟩ | ⟨_, rfl⟩ | ⟨rfl, rfl⟩
    · exact ⟨l', C, h6, by rw [← hE.nil l' h5]; exact hc, (hE.blk l' h5).symm⟩
    · cases hc
    · rw [hblk]; exact him
  refine ⟨hE, by simp, ⟨fun l' C hl' => ?_, fun l' C hl' => ?_, fun l1 l2 C1 C2 hl1 hl2 ho1 ho2 he => ?_, fun l' k n g hl' hn hi => ?_⟩, h1, h2, h3, by omega, fun b hb hi => hw b fun e => hi (e ▸ him), fun b _ => old b⟩
  · rcases get hl' with ⟨h5, h7, h6⟩ | ⟨_, rfl⟩ | ⟨rfl, rfl⟩
    · refine BRep.agree hE h5 (h.ok l' C h6) ((h.rep l' C h6).kept fun hc => hw _ fun e => ?_)
      rcases hc with hc | ⟨⟨k, m, g, rfl⟩, hn⟩
      · exact h7 (h.inj l' l C B0 h6 hl hc ho e)
      · exact h.ro l' k m g h6 hn (e ▸ him)
    · trivial
    · exact hB
  · rcases get hl' with ⟨h5, h7, h6⟩ | ⟨_, rfl⟩ | ⟨rfl, rfl⟩
    · exact (h.ok l' C h6).agree hE (by simp)
    · trivial
    · simpa using hok
  · rcases get hl1 with ⟨h5, h7, h6⟩ | ⟨_, rfl⟩ | ⟨rfl, rfl⟩ <;> rcases get hl2 with ⟨g5, g7, g6⟩ | ⟨_, rfl⟩ | ⟨rfl, rfl⟩
    · rw [hE.nil l1 h5] at ho1
      rw [hE.nil l2 g5] at ho2
      exact h.inj l1 l2 C1 C2 h6 g6 ho1 ho2 (by rw [← hE.blk l1 h5, ← hE.blk l2 g5, he])
    · cases ho2
    · rw [hE.nil l1 h5] at ho1
      rw [hblk, hE.blk l1 h5] at he
      exact absurd (h.inj l1 l C1 B0 h6 hl ho1 ho he) h7
    · cases ho1
    · cases ho1
    · cases ho1
    · rw [hE.nil l2 g5] at ho2
      rw [hblk, hE.blk l2 g5] at he
      exact absurd (h.inj l2 l C2 B0 g6 hl ho2 ho he.symm) g7
    · cases ho2
    · rfl
  · rcases get hl' with ⟨h5, h7, h6⟩ | ⟨_, h8⟩ | ⟨rfl, rfl⟩
    · rw [hE.nil l' h5] at hn
      rw [hE.blk l' h5] at hi
      exact h.ro l' k n g h6 hn (old _ hi)
    · cases h8
    · exact hro k n g rfl

end

/-! ### What trees say -/

def CallsA (P : Program) (f : Nat) (args : List AV) (H : Heap) (Q : AV → Heap → Prop) : Prop :=
  ∀ (E : Env) (w : World), HRep E H w → (∀ x ∈ args, x.ref ≤ H.length ∧ x.ok E) →
    Calls P f (args.map (AV.conc E)).toArray w fun e w' => ∃ (r : AV) (H' : Heap) (E' : Env), e = .returned (r.conc E') ∧ Step H.length E H w E' H' w' ∧ r.ref ≤ H'.length ∧ r.ok E' ∧ Q r H'

def CodeA (P : Program) (n0 : Nat) (c : Code) (σ : St) (Q : Exit → St → Prop) : Prop :=
  ∀ (E : Env) (w : World) (a : Act), HRep E σ.H w → FRep E σ.H.length σ.fr a → n0 ≤ σ.H.length →
    c.wp P (fun e a' w' => ∃ (σ' : St) (E' : Env), Step n0 E σ.H w E' σ'.H w' ∧ FRep E' σ'.H.length σ'.fr a' ∧ Q e σ') a w

def T.sat {α : Type} (P : Program) : T α → (α → Prop) → Prop
  | .ret a, Q => Q a
  | .ite b t e, Q => (b = true → t.sat P Q) ∧ (b = false → e.sat P Q)
  | .need p t, Q => p ∧ t.sat P Q
  | .both t e, Q => t.sat P Q ∧ e.sat P Q
  | .call f args H k, Q => CallsA P f args H fun r H' => (k r H').sat P Q
  | .code n0 c σ k, Q => CodeA P n0 c σ fun e σ' => (k e σ').sat P Q
  | .fail, _ => False

theorem CallsA.mono {P : Program} {f : Nat} {args : List AV} {H : Heap} {Q Q' : AV → Heap → Prop} (h : CallsA P f args H Q) (hq : ∀ r H', Q r H' → Q' r H') : CallsA P f args H Q' :=
  fun E w hr ha => (h E w hr ha).mono fun _ _ ⟨r, H', E', h1, h2, h3, h4, h5⟩ => ⟨r, H', E', h1, h2, h3, h4, hq _ _ h5⟩

theorem CodeA.mono {P : Program} {n0 : Nat} {c : Code} {σ : St} {Q Q' : Exit → St → Prop} (h : CodeA P n0 c σ Q) (hq : ∀ e σ', Q e σ' → Q' e σ') : CodeA P n0 c σ Q' :=
  fun E w a hr hf hn => wp_mono (h E w a hr hf hn) fun _ _ _ ⟨σ', E', h1, h2, h3⟩ => ⟨σ', E', h1, h2, hq _ _ h3⟩

theorem T.sat_mono {α : Type} {P : Program} {Q Q' : α → Prop} (hq : ∀ a, Q a → Q' a) : ∀ {t : T α}, t.sat P Q → t.sat P Q'
  | .ret _, h => hq _ h
  | .ite _ _ _, h => ⟨fun hb => T.sat_mono hq (h.1 hb), fun hb => T.sat_mono hq (h.2 hb)⟩
  | .need _ _, h => ⟨h.1, T.sat_mono hq h.2⟩
  | .both _ _, h => ⟨T.sat_mono hq h.1, T.sat_mono hq h.2⟩
  | .call _ _ _ _, h => CallsA.mono h fun _ _ h => T.sat_mono hq h
  | .code _ _ _ _, h => CodeA.mono h fun _ _ h => T.sat_mono hq h
  | .fail, h => h.elim

theorem T.sat_bind {α β : Type} {P : Program} {Q : β → Prop} {k : α → T β} : ∀ {t : T α}, (t.bind k).sat P Q → t.sat P fun a => (k a).sat P Q
  | .ret _, h => h
  | .ite _ _ _, h => ⟨fun hb => T.sat_bind (h.1 hb), fun hb => T.sat_bind (h.2 hb)⟩
  | .need _ _, h => ⟨h.1, T.sat_bind h.2⟩
  | .both _ _, h => ⟨T.sat_bind h.1, T.sat_bind h.2⟩
  | .call _ _ _ _, h => CallsA.mono h fun _ _ h => T.sat_bind h
  | .code _ _ _ _, h => CodeA.mono h fun _ _ h => T.sat_bind h
  | .fail, h => h.elim

theorem R.sat_then {α : Type} {P : Program} {Q : α → Prop} {k : AV → T α} : ∀ {r : R}, (r.then k).sat P Q → ∃ v, r.gives v ∧ (k v).sat P Q
  | .v x, h => ⟨x, rfl, h⟩
  | .b true, h => ⟨_, rfl, h.1 rfl⟩
  | .b false, h => ⟨_, rfl, h.2 rfl⟩
  | .need _ r, h => by obtain ⟨v, h1, h2⟩ := R.sat_then (r := r) h.2; exact ⟨v, ⟨h.1, h1⟩, h2⟩
  | .bad, h => h.elim

end Go.Proofs.Ythckkoledhjmeaa.Ev
