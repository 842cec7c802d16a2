/-
  A loop over a map of packets: its iterator lies beside the heap that is told of.
-/
import Derived.Maps.RangeRun
import Derived.Test.YthckkoledhjmeaaTB
namespace Go.Proofs.Ythckkoledhjmeaa.Ev
open Go

variable {P : Program}

/-- An iterator under way: what is still to come. -/
structure Iter (w : World) (r bm : Nat) (ents : Array MapEntry) (clock : Nat) (lf : List MapEntry) : Prop where
  map : w.heap[bm]? = some (.map ents clock)
  it : ∃ since seen c0, w.heap[r]? = some (.mapIter (some bm) since seen c0) ∧ since ≤ c0 ∧ since ≤ clock ∧ (∀ x ∈ ents.toList, x.born < since) ∧ lf = (leftOf ents seen).toList

/-- Nothing turns but one block. -/
structure OutW (w w' : World) (r : Nat) : Prop where
  os : w'.os = w.os
  tape : w'.tape = w.tape
  output : w'.output = w.output
  size : w'.heap.size = w.heap.size
  heap : ∀ b, b ≠ r → w'.heap[b]? = w.heap[b]?

theorem left_perm {e : MapEntry} : ∀ {l : List MapEntry} (seen : Array Nat), (l.map (·.born)).Nodup → e ∈ l.filter (fun x => !seen.contains x.born) →
    (l.filter fun x => !seen.contains x.born).Perm (e :: l.filter fun x => !(seen.push e.born).contains x.born)
  | [], seen, _, h => by simp at h
  | x :: l, seen, hn, h => by
    have hn' := List.nodup_cons.1 (by simpa using hn : ((x.born :: l.map (·.born)).Nodup))
    by_cases hx : x.born = e.born
    · have hxe : x = e := by
        rcases List.mem_cons.1 (List.mem_filter.1 h).1 with he | hm
        · exact he.symm
        · exact absurd (hx ▸ List.mem_map.2 ⟨e, hm, rfl⟩) hn'.1
      subst hxe
      have h1 : (!seen.contains x.born) = true := (List.mem_filter.1 h).2
      have h2 : (!(seen.push x.born).contains x.born) = false := by simp
      rw [List.filter_cons, if_pos h1, List.filter_cons, if_neg (by simp)]
      refine List.Perm.cons _ (List.Perm.of_eq ?_)
      apply List.filter_congr
      intro y hy
      have : y.born ≠ x.born := fun he => hn'.1 (he ▸ List.mem_map.2 ⟨y, hy, rfl⟩)
      simp [this]
    · have hm : e ∈ l.filter (fun x => !seen.contains x.born) := by
        rw [List.mem_filter] at h ⊢
        rcases List.mem_cons.1 h.1 with rfl | hm
        · exact absurd rfl hx
        · exact ⟨hm, h.2⟩
      have ih := left_perm seen hn'.2 hm
      by_cases hs : seen.contains x.born = true
      · have hs' : x.born ∈ seen := by simpa using hs
        rw [List.filter_cons, if_neg (by simpa using hs'), List.filter_cons, if_neg (by simp [hs'])]
        exact ih
      · have hs' : x.born ∉ seen := by simpa using hs
        rw [List.filter_cons, if_pos (by simpa using hs'), List.filter_cons, if_pos (by simp [hs', hx])]
        exact (List.Perm.cons x ih).trans (List.Perm.swap _ _ _)

theorem iter_next {w : World} {r bm clock : Nat} {ents : Array MapEntry} {lf : List MapEntry} (h : Iter w r bm ents clock lf) (hn : (ents.toList.map (·.born)).Nodup) (hr : r ≠ bm) (ty : TypeId) :
    (lf = [] ∧ (Instr.next (.pointer (some ⟨r, 0, none⟩)) false ty).run P w = .ok (.tuple #[.bool false]) w) ∨
    ∃ e lf' w', e ∈ ents.toList ∧ lf.Perm (e :: lf') ∧ (Instr.next (.pointer (some ⟨r, 0, none⟩)) false ty).run P w = .ok (.tuple #[.bool true, e.key, e.val]) w' ∧
      Iter w' r bm ents clock lf' ∧ (Instr.entry (.pointer (some ⟨r, 0, none⟩))).run P w' = .ok (.tuple #[e.key, e.val]) w' ∧ OutW w w' r := by
  obtain ⟨since, seen, c0, h1, h2, h2', h3, rfl⟩ := h.it
  rcases run_next_at (P := P) w ty r bm since c0 seen ents clock h1 h.map h3 h2 with ⟨g1, g2⟩ | ⟨e, he, w1, hw1, hrun⟩
  · left
    exact ⟨List.eq_nil_of_length_eq_zero (by simpa using g1), g2⟩
  · right
    have hlt : r < w.heap.size := (Array.getElem?_eq_some_iff.1 h1).1
    have hheap : w1.heap = w.heap := by rcases hw1 with rfl | rfl <;> rfl
    have hnew : (ChangeMaps.setBlock w1 r (.mapIter (some bm) since (seen.push e.born) clock)).heap = w.heap.setIfInBounds r (.mapIter (some bm) since (seen.push e.born) clock) := by simp [ChangeMaps.setBlock, hheap]
    have hm' : (ChangeMaps.setBlock w1 r (.mapIter (some bm) since (seen.push e.born) clock)).heap[bm]? = some (.map ents clock) := by rw [hnew, Array.getElem?_setIfInBounds_ne hr]; exact h.map
    have hr' : (ChangeMaps.setBlock w1 r (.mapIter (some bm) since (seen.push e.born) clock)).heap[r]? = some (.mapIter (some bm) since (seen.push e.born) clock) := by rw [hnew]; simp [hlt]
    have hmem : e ∈ ents.toList := by
      simp only [leftOf, Array.toList_filter] at he
      exact (List.mem_filter.1 he).1
    refine ⟨e, (leftOf ents (seen.push e.born)).toList, _, hmem, ?_, hrun, ⟨hm', since, seen.push e.born, clock, hr', h2', h2', h3, rfl⟩, run_entry_at _ r bm since seen ents clock e hr' hm' hmem hn, ?_⟩
    · simp only [leftOf, Array.toList_filter] at he ⊢
      exact left_perm seen hn he
    · rcases hw1 with rfl | rfl <;> exact ⟨rfl, rfl, rfl, by simp [ChangeMaps.setBlock], fun b hb => by rw [hnew, Array.getElem?_setIfInBounds_ne (Ne.symm hb)]⟩

end Go.Proofs.Ythckkoledhjmeaa.Ev
