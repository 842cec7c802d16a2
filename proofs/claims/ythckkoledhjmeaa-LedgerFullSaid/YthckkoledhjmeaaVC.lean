/-
  ledger.some's loop.
-/
import Derived.Test.YthckkoledhjmeaaVB
namespace Go.Proofs.Ythckkoledhjmeaa.Ev
open Go

/-! ### A world turns beside the heap -/

theorem step_out {n0 : Nat} {E0 E : Env} {H0 H : Heap} {w0 w w' : World} {r : Nat} (h : Step n0 E0 H0 w0 E H w) (ho : OutW w w' r) (hr : w0.heap.size ≤ r) (hi : ¬ Im E H r) (hro : noRo H = true) : Step n0 E0 H0 w0 E H w' := by
  refine ⟨h.agree, h.len, ⟨fun l B hl => (h.rep.rep l B hl).kept fun hc => ?_, h.rep.ok, h.rep.inj, h.rep.ro⟩, ho.os.trans h.os, ho.tape.trans h.tape, ho.output.trans h.output, by rw [ho.size]; exact h.size, fun b hb hn => ?_, h.im⟩
  · rcases hc with hc | ⟨⟨k, m, g, rfl⟩, hn⟩
    · exact ho.heap _ fun e => hi ⟨l, B, hl, hc, e⟩
    · exact absurd hl (noRo_get hro)
  · rw [ho.heap b (by omega)]; exact h.frame b hb hn

theorem step_alloc_out {n0 : Nat} {E0 E : Env} {H0 H : Heap} {w0 w : World} (h : Step n0 E0 H0 w0 E H w) (o : Obj) : Step n0 E0 H0 w0 E H (w.alloc o) := by
  refine ⟨h.agree, h.len, ⟨fun l B hl => (h.rep.rep l B hl).kept fun hc => ?_, h.rep.ok, h.rep.inj, h.rep.ro⟩, h.os, h.tape, h.output, by simp; exact Nat.le_succ_of_le h.size, fun b hb hn => ?_, h.im⟩
  · rcases hc with hc | ⟨⟨k, m, g, rfl⟩, hn⟩
    · exact heap_alloc_old w _ _ ((h.rep.rep l B hl).lt hc)
    · exact heap_alloc_old w _ _ (ro_lt (h.rep.rep l _ hl) hn)
  · rw [heap_alloc_old w _ _ (Nat.lt_of_lt_of_le hb h.size)]; exact h.frame b hb hn

/-- A map that was hidden is shown again. -/
theorem step_show {n0 l : Nat} {E0 E : Env} {H H' : Heap} {w0 w : World} {es : List Pkt} (h0 : HRep E0 H w0) (hl : H[l]? = some (.pm es)) (hln : l < n0) (hst : Step n0 E0 (H.set l .dead) w0 E (H'.set l .dead) w) (hl' : H'[l]? = some (.pm es))
    (hm : w.heap[E0.blk l]? = w0.heap[E0.blk l]?) (hro : noRo H' = true) : Step n0 E0 H w0 E H' w := by
  have hb : E.blk l = E0.blk l := hst.agree.blk l hln
  have hlt : l < H'.length := lt_of_get hl'
  have hlt0 : E0.blk l < w0.heap.size := (h0.rep l _ hl).lt rfl
  have get : ∀ {x : Nat} {C : AB}, H'[x]? = some C → x = l ∨ (x ≠ l ∧ (H'.set l .dead)[x]? = some C) := by
    intro x C hx
    by_cases he : x = l
    · exact .inl he
    · exact .inr ⟨he, by rw [List.getElem?_set_ne (Ne.symm he)]; exact hx⟩
  have get0 : ∀ {b : Nat}, Im E0 (H.set l .dead) b → Im E0 H b ∧ b ≠ E0.blk l := by
    rintro b ⟨x, C, hx, ho, rfl⟩
    rcases get_set hx with ⟨h1, h2⟩ | ⟨_, rfl, _⟩
    · exact ⟨⟨x, C, h2, ho, rfl⟩, fun he => h1 (h0.inj x l C _ h2 hl ho rfl he)⟩
    · cases ho
  refine ⟨hst.agree, by have := hst.len; simpa using this, ⟨fun x C hx => ?_, fun x C hx => ?_, fun x x' C C' hx hx' ho ho' he => ?_, fun x k n g hx => absurd hx (noRo_get hro)⟩, hst.os, hst.tape, hst.output, hst.size, fun b hb hn => hst.frame b hb fun hi => hn (get0 hi).1, fun b hb hi => ?_⟩
  · rcases get hx with rfl | ⟨_, h1⟩
    · rw [hl'] at hx
      cases hx
      obtain ⟨ents, clock, h2, h3⟩ := h0.rep _ _ hl
      exact ⟨ents, clock, by rw [hb, hm]; exact h2, h3⟩
    · exact hst.rep.rep x C h1
  · rcases get hx with rfl | ⟨_, h1⟩
    · rw [hl'] at hx; cases hx; trivial
    · have := hst.rep.ok x C h1; rwa [List.length_set] at this
  · rcases get hx with rfl | ⟨h1, h2⟩ <;> rcases get hx' with rfl | ⟨k1, k2⟩
    · rfl
    · rw [hb] at he
      exact absurd he.symm (get0 (hst.im _ (he ▸ hlt0) ⟨x', C', k2, ho', rfl⟩)).2
    · rw [hb] at he
      exact absurd he (get0 (hst.im _ (he ▸ hlt0) ⟨x, C, h2, ho, rfl⟩)).2
    · exact hst.rep.inj x x' C C' h2 k2 ho ho' he
  · obtain ⟨x, C, hx, ho, rfl⟩ := hi
    rcases get hx with rfl | ⟨h1, h2⟩
    · exact ⟨_, _, hl, rfl, hb.symm⟩
    · exact (get0 (hst.im _ hb ⟨x, C, h2, ho, rfl⟩)).1

end Go.Proofs.Ythckkoledhjmeaa.Ev
