/-
  The abstract evaluator: functions that only read rows, in whatever heap; map loops' steps.
-/
import Derived.Test.YthckkoledhjmeaaEvS
namespace Go.Proofs.Ythckkoledhjmeaa.Ev
open Go

/-- The rows, as rows that are only read. -/
def roH (H : Heap) : List Nat → Option Heap
  | [] => some []
  | l :: ls => match rowOf H l, roH H ls with
    | some (k, n, g), some H' => some (.ro k n g :: H')
    | _, _ => none

theorem roH_get {H : Heap} : ∀ {ls : List Nat} {Hr : Heap}, roH H ls = some Hr → Hr.length = ls.length ∧ ∀ (p : Nat) (B : AB), Hr[p]? = some B → ∃ l k n g, ls[p]? = some l ∧ rowOf H l = some (k, n, g) ∧ B = .ro k n g
  | [], Hr, h => by cases h; exact ⟨rfl, fun p B h => by simp at h⟩
  | l :: ls, Hr, h => by
    simp only [roH] at h
    split at h
    · rename_i k n g H' hr hH
      cases h
      obtain ⟨h1, h2⟩ := roH_get hH
      refine ⟨by simp [h1], fun p B hp => ?_⟩
      cases p with
      | zero => simp at hp; exact ⟨l, k, n, g, rfl, hr, hp.symm⟩
      | succ p => simp at hp; simpa using h2 p B hp
    · cases h

theorem rowOf_lt {E : Env} {H : Heap} {w : World} (h : HRep E H w) {l k n : Nat} {g : Nat → List Value} (hr : rowOf H l = some (k, n, g)) (hn : E.nil l = false) : E.blk l < w.heap.size := by
  unfold rowOf at hr
  split at hr
  · rename_i hl; cases hr; exact (h.rep l _ hl).lt (by simp [AB.own, hn])
  · rename_i hl; cases hr; exact ro_lt (h.rep l _ hl) hn
  · rename_i hl; cases hr; exact (h.rep l _ hl).lt (by simp [AB.own, hn])
  · cases hr

/-- A function that only reads rows. -/
theorem CallsA.liftR {P : Program} {f : Nat} {args args0 : List AV} {H Hr : Heap} (ls : List Nat) (hr : renFr (ls.map some) args = some args0) (hH : roH H ls = some Hr)
    {Q0 : Value → Prop} (h : CallsA P f args0 Hr fun r _ => ∃ v, (r = .c v ∨ r = .d v) ∧ Q0 v) : CallsA P f args H fun r H' => H' = H ∧ ∃ v, r = .d v ∧ Q0 v := by
  intro E w hrep hargs
  obtain ⟨hlen, hget⟩ := roH_get hH
  obtain ⟨f1, f2, f3⟩ := renFr_ok (E := E) hr
  have hvia : ∀ (p l : Nat), ls[p]? = some l → ((((ls.map some).getD p none).getD p : Nat)) = l := by
    intro p l hp
    rw [List.getD_eq_getElem?_getD, List.getElem?_map, hp]
    rfl
  have noim : ∀ b, ¬ Im (E.via (ls.map some)) Hr b := by
    rintro b ⟨p, B, hp, ho, _⟩
    obtain ⟨_, _, _, _, _, _, rfl⟩ := hget p B hp
    cases ho
  have hrep0 : HRep (E.via (ls.map some)) Hr w := by
    refine ⟨fun p B hp => ?_, fun p B hp => ?_, fun p p' B B' hp hp' ho ho' he => ?_, fun p k n g hp hn hi => noim _ hi⟩
    · obtain ⟨l, k, n, g, h1, h2, rfl⟩ := hget p B hp
      have hv := hvia p l h1
      have hR := rowOf_rows hrep h2
      have e1 : (E.via (ls.map some)).nil p = E.nil l := by simp only [Env.via, hv]
      have e2 : (E.via (ls.map some)).blk p = E.blk l := by simp only [Env.via, hv]
      have e3 : (E.via (ls.map some)).base p = E.base l := by simp only [Env.via, hv]
      have e4 : (E.via (ls.map some)).cap p = E.cap l := by simp only [Env.via, hv]
      exact RoR.mk hR.pos (by rw [e1]; exact hR.nil) (by rw [e1, e4]; exact hR.cap) (fun hn => by rw [e1] at hn; rw [e2, e3]; exact ⟨rowOf_lt hrep h2 hn, hR.mem hn⟩) hR.len hR.one
    · obtain ⟨l, k, n, g, h1, h2, rfl⟩ := hget p B hp; trivial
    · obtain ⟨l, k, n, g, h1, h2, rfl⟩ := hget p B hp; cases ho
  refine (show Calls P f (args.map (AV.conc E)).toArray w _ from by
    rw [← f1]
    exact h (E.via (ls.map some)) w hrep0 fun x hx => ⟨by rw [hlen]; simpa using f2 x hx, f3 (fun x hx => (hargs x hx).2) x hx⟩).mono ?_
  rintro e w' ⟨r, H0', E0', rfl, hst, g2, g3, v, hv, hq⟩
  have hw : ∀ b, b < w.heap.size → w'.heap[b]? = w.heap[b]? := fun b hb => hst.frame b hb (noim b)
  refine ⟨.d v, H, E, by rcases hv with rfl | rfl <;> rfl, ⟨.refl _ _, Nat.le_refl _, ⟨fun l B hl => ?_, hrep.ok, hrep.inj, hrep.ro⟩, hst.os, hst.tape, hst.output, hst.size, fun b hb _ => hw b hb, fun b _ hi => hi⟩, Nat.zero_le _, ok_s.2 trivial, rfl, v, rfl, hq⟩
  have hr := hrep.rep l B hl
  refine hr.kept fun hc => ?_
  rcases hc with ho | ⟨⟨k, m, g, rfl⟩, hn⟩
  · exact hw _ (hr.lt ho)
  · exact hw _ (ro_lt hr hn)

/-! ### Ways in trees -/

def T.go {α : Type} : List Bool → T α → T α
  | [], t => t
  | b :: p, .ite _ t e => match b with | true => T.go p t | false => T.go p e
  | _ :: p, .need _ t => T.go p t
  | b :: p, .both t e => match b with | true => T.go p t | false => T.go p e
  | _ :: _, t => t

def T.kont {α : Type} : T α → Exit → St → T α
  | .code _ _ _ k => k
  | _ => fun _ _ => .fail

def T.kontC {α : Type} : T α → AV → Heap → T α
  | .call _ _ _ k => k
  | _ => fun _ _ => .fail

/-- The bodies of a code's loops, in the text's order. -/
def loopsOf : Code → List Code
  | .seq a b => loopsOf a ++ loopsOf b
  | .cond _ a b => loopsOf a ++ loopsOf b
  | .block _ c => loopsOf c
  | .loop c => c :: loopsOf c
  | .scope c => loopsOf c
  | _ => []

def bodyOf (P : Program) (f : Nat) : Code :=
  match P.funcs[f]? with
  | some fn => match fn.body with
    | some c => c
    | none => .skip
  | none => .skip

def loopAt (P : Program) (f i : Nat) : Code := (loopsOf (bodyOf P f)).getD i .skip

end Go.Proofs.Ythckkoledhjmeaa.Ev
