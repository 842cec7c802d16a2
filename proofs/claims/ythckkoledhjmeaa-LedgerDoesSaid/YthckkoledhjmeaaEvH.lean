/-
  The abstract evaluator: every operation that turns memory.
-/
import Derived.Test.YthckkoledhjmeaaEvG
namespace Go.Proofs.Ythckkoledhjmeaa.Ev
open Go

section
variable {P : Program} {E : Env} {H : Heap} {fr : List AV} {a : Act} {w : World}

/-! ### Rows -/

theorem rep_get {n : Nat} {z : List SV} : ∀ (m x : Nat), x < m * z.length → (List.replicate m z).flatten[x]? = z[x % z.length]?
  | 0, x, h => by omega
  | m + 1, x, h => by
    rw [List.replicate_succ, List.flatten_cons]
    by_cases hx : x < z.length
    · rw [List.getElem?_append_left hx, Nat.mod_eq_of_lt hx]
    · rw [List.getElem?_append_right (by omega), rep_get (n := n) m (x - z.length) (by rw [Nat.add_mul] at h; omega)]
      congr 1
      rw [Nat.mod_eq_sub_mod (by omega : z.length ≤ x)]

theorem chunks_len (k : Nat) : ∀ (n : Nat) (vs : List Value), (chunksOf k n vs).length = n
  | 0, _ => rfl
  | n + 1, vs => by simp [chunksOf, chunks_len k n]

theorem chunks_get (k : Nat) : ∀ (n : Nat) (vs : List Value) (i : Nat), i < n → (chunksOf k n vs).getD i [] = (vs.drop (i * k)).take k
  | 0, _, i, h => by omega
  | n + 1, vs, 0, _ => by simp [chunksOf]
  | n + 1, vs, i + 1, h => by
    have := chunks_get k n (vs.drop k) i (by omega)
    simp only [chunksOf, List.getD_cons_succ, this, List.drop_drop]
    rw [Nat.add_mul, Nat.one_mul, Nat.add_comm]

theorem lit_row (t k n : Nat) (vs : List Value) (hk : 0 < k) (hl : vs.length = n * k) (h1 : ∀ v ∈ vs, v.oneCell' = true) (E : Env) (w : World) (l : Nat) :
    RowR (E.push l w.heap.size 0 n false) (w.alloc (.cells vs.toArray t)) l t k (chunksOf k n vs).length (fun j => (chunksOf k n vs).getD j []) := by
  rw [chunks_len]
  refine ⟨hk, fun h => by simp at h, fun _ => by simp, fun _ => ⟨vs.toArray, by simp only [Env.push_blk, heap_alloc_new], by simp [hl], fun i hi j hj => ?_⟩, fun i hi => ?_, fun i hi v hv => ?_⟩
  · rw [chunks_get k n vs i hi, List.getElem?_take_of_lt hj, List.getElem?_drop]
    simp
  · rw [chunks_get k n vs i hi, List.length_take, List.length_drop, hl]
    have : (i + 1) * k ≤ n * k := Nat.mul_le_mul_right k hi
    rw [Nat.add_mul, Nat.one_mul] at this
    omega
  · rw [chunks_get k n vs i hi] at hv
    exact h1 v (List.mem_of_mem_drop (List.mem_of_mem_take hv))

theorem splice_row {l ty k n i o : Nat} {g : Nat → List Value} {vs : List Value} (h : RowR E w l ty k n g) (hi : i < n) (hb : o + vs.length ≤ k) (h1 : ∀ v ∈ vs, v.oneCell' = true) (hnil : E.nil l = false) :
    ∃ cur : Array Value, w.heap[E.blk l]? = some (.cells cur ty (0, 0)) ∧ E.base l + i * k + o + vs.length ≤ cur.size ∧
      RowR E (w.setRow (E.blk l) (cur.toList.take (E.base l + i * k + o) ++ vs ++ cur.toList.drop (E.base l + i * k + o + vs.length)).toArray) l ty k n (spliceG g i o vs) := by
  obtain ⟨cur, hv, hs, hm⟩ := h.mem hnil
  have hcap := h.cap hnil
  have hs := hs (by omega)
  have hik : (i + 1) * k ≤ E.cap l * k := Nat.mul_le_mul_right k (by omega)
  rw [Nat.add_mul, Nat.one_mul] at hik
  refine ⟨cur, hv, by omega, h.pos, h.nil, h.cap, fun _ => ⟨_, setRow_heap w _ _ _ _ _ hv, ?_, fun i' hi' j hj => ?_⟩, fun i' hi' => ?_, fun i' hi' v hvm => ?_⟩
  · intro _
    simp only [List.size_toArray, List.length_append, List.length_take, List.length_drop, Array.length_toList]
    omega
  · have hgl := h.len i hi
    have hi'k : (i' + 1) * k ≤ E.cap l * k := Nat.mul_le_mul_right k (by omega)
    rw [Nat.add_mul, Nat.one_mul] at hi'k
    have hold := hm i' hi' j hj
    have hin : E.base l + i' * k + j < cur.size := by omega
    simp only [List.getElem?_toArray, spliceG]
    by_cases he : i' = i
    · subst he
      rw [if_pos rfl]
      simp only [List.getElem?_append, List.length_append, List.length_take, Array.length_toList, List.getElem?_take, List.getElem?_drop, Array.getElem?_toList]
      by_cases c1 : j < o
      · have e1 : E.base l + i' * k + j < min (E.base l + i' * k + o) cur.size := by omega
        have e2 : j < min o (g i').length := by omega
        rw [if_pos (by omega), if_pos e1, if_pos (by omega), if_pos (by omega), if_pos e2, if_pos c1]
        exact hold
      · by_cases c2 : j < o + vs.length
        · rw [if_pos (by omega), if_neg (by omega), if_pos (by omega), if_neg (by omega)]
          congr 1
          omega
        · rw [if_neg (by omega), if_neg (by omega)]
          rw [← (show cur[E.base l + i' * k + j]? = cur[E.base l + i' * k + o + vs.length + (E.base l + i' * k + j - (min (E.base l + i' * k + o) cur.size + vs.length))]? from by congr 1; omega)]
          rw [hold]
          congr 1
          omega
    · rw [if_neg he, ← hold]
      simp only [List.getElem?_append, List.length_append, List.length_take, Array.length_toList, List.getElem?_take, List.getElem?_drop, Array.getElem?_toList]
      rcases Nat.lt_or_gt_of_ne he with hlt | hgt
      · have : (i' + 1) * k ≤ i * k := Nat.mul_le_mul_right k hlt
        rw [Nat.add_mul, Nat.one_mul] at this
        rw [if_pos (by omega), if_pos (by omega), if_pos (by omega)]
      · have : (i + 1) * k ≤ i' * k := Nat.mul_le_mul_right k hgt
        rw [Nat.add_mul, Nat.one_mul] at this
        rw [if_neg (by omega)]
        congr 1
        omega
  · simp only [spliceG]
    split
    · rename_i he
      subst he
      have := h.len i' hi'
      simp only [List.length_append, List.length_take, List.length_drop]
      omega
    · exact h.len i' hi'
  · simp only [spliceG] at hvm
    split at hvm
    · rename_i he
      subst he
      rcases List.mem_append.1 hvm with hvm | hvm
      · rcases List.mem_append.1 hvm with hvm | hvm
        · exact h.one i' hi' v (List.mem_of_mem_take hvm)
        · exact h1 v hvm
      · exact h.one i' hi' v (List.mem_of_mem_drop hvm)
    · exact h.one i' hi' v hvm

/-! ### Allocations and stores -/

theorem eff_alloc (h : HRep E H w) (_ : FRep E H.length fr a) {o : Oper} {t : TypeId} (hop : o.op = .alloc t) {Q : AV × Heap → Prop} (hq : (effA P fr H o.op).sat P Q) : EffOk P E H w a o Q := by
  rw [hop] at hq
  simp only [effA] at hq
  split at hq
  · rename_i z hz
    split at hq
    · rename_i h1
      obtain ⟨v, hv, hc, _⟩ := run_zeroValue hz E w
      refine ⟨_, .e (.s (.ptr H.length 0)), _, _, _, ?_, .inl rfl, alloc_step h t z (Nat.le_trans (zeroOf_ref hz) (Nat.zero_le _)) (zeroOf_ok hz) v.cells hc, by simp [AV.ref, EV.ref, SV.ref], ok_s.2 trivial, hq⟩
      simp [execOp, hop, Instr.alloc, hv, newVar, newRow, AV.conc, EV.conc, SV.conc]
    · cases hq
  · cases hq

theorem eff_box (h : HRep E H w) (hf : FRep E H.length fr a) {o : Oper} {t : TypeId} {x : Operand} (hop : o.op = .box t x) {Q : AV × Heap → Prop} (hq : (effA P fr H o.op).sat P Q) : EffOk P E H w a o Q := by
  rw [hop] at hq
  simp only [effA] at hq
  split at hq
  · rename_i cs hcs
    split at hq
    · rename_i h1
      have hc := cells_conc (E := E) hcs
      refine ⟨_, .e (.s (.ptr H.length 0)), _, _, _, ?_, .inl rfl, alloc_step h t cs (cells_ref hcs (hf.opnd_ref x)) (cells_ok hcs (hf.opnd_ok x)) _ hc, by simp [AV.ref, EV.ref, SV.ref], ok_s.2 trivial, hq⟩
      simp [execOp, hop, Instr.box, newVar, newRow, AV.conc, EV.conc, SV.conc, hf.eval]
    · cases hq
  · cases hq

theorem run_storeAt {t : TypeId} {s : Nat} (hs : sizeOfT P t = some s) {v : Value} {b o ty : Nat} {cur : Array Value} (hb : w.heap[b]? = some (.cells cur ty (0, 0))) (hl : v.cells.toList.length = s) (hin : o + s ≤ cur.size) (h1 : ∀ x ∈ v.cells.toList, x.oneCell' = true) :
    (Instr.storeAt t (.pointer (some ⟨b, o, none⟩)) v).run P w = .ok () (w.setRow b (cur.toList.take o ++ v.cells.toList ++ cur.toList.drop (o + s)).toArray) := by
  have h2 := run_storeCells_at P b o ty v.cells.toList 0 cur w hb (by omega) h1
  simp only [Nat.add_zero, hl] at h2
  have hl' : v.cells.size = s := by rw [← hl]; simp
  simp [Instr.storeAt, Instr.sureAddr, storeVar, run_sizeOf hs, hl', h2]

theorem eff_store (h : HRep E H w) (hf : FRep E H.length fr a) {o : Oper} {t : TypeId} {x y : Operand} (hop : o.op = .store t x y) {Q : AV × Heap → Prop} (hq : (effA P fr H o.op).sat P Q) : EffOk P E H w a o Q := by
  rw [hop] at hq
  simp only [effA] at hq
  split at hq
  · rename_i l of cs s hx hcs hs
    split at hq
    · rename_i ty ds hl
      split at hq
      · rename_i hc
        obtain ⟨c1, c2, c3⟩ := hc
        have hcc := cells_conc (E := E) hcs
        have hst := store_step h hl (o := of) (cells_ref hcs (hf.opnd_ref y)) (cells_ok hcs (hf.opnd_ok y)) (by omega)
        have hrep := h.rep l _ hl
        have hrun := run_storeAt (P := P) (w := w) hs (v := (opnd fr y).conc E) (b := E.blk l) (o := of) hrep (by rw [hcc]; simp [c1]) (by simp; omega) (by
          rw [hcc]
          intro x hx
          obtain ⟨z, hz, rfl⟩ := List.mem_map.1 hx
          exact one_conc (List.all_eq_true.1 c3 z hz))
        rw [c1] at hst
        refine ⟨.skip, _, _, E, _, ?_, .inr ⟨rfl, rfl⟩, hst, Nat.zero_le _, undef_ok, hq⟩
        have e1 : (opnd fr x).conc E = .pointer (some ⟨E.blk l, of, none⟩) := by rw [hx]; rfl
        rw [hcc] at hrun
        simp only [execOp, hop, hf.eval, e1, Sem.run_bind, hrun, Result.andThen_ok, Sem.run_pure]
      · cases hq
    · cases hq
  · rename_i l k' i of cs s hx hcs hs
    split at hq
    · rename_i ty k n g vs hl hvs
      split at hq
      · rename_i hc
        obtain ⟨rfl, c1, c2⟩ := hc
        obtain ⟨hi, hq⟩ := hq
        obtain ⟨hv1, hv2⟩ := vals_conc (E := E) hvs
        have hcc := cells_conc (E := E) hcs
        have hrow : RowR E w l ty k' n g := h.rep l _ hl
        have hnil : E.nil l = false := by
          cases hn : E.nil l with
          | false => rfl
          | true => have := hrow.nil hn; omega
        obtain ⟨cur, hcur, hin, hnew⟩ := splice_row (o := of) (vs := vs) hrow hi (by omega) hv2 hnil
        have hst := step_set (w' := w.setRow (E.blk l) (cur.toList.take (E.base l + i * k' + of) ++ vs ++ cur.toList.drop (E.base l + i * k' + of + vs.length)).toArray) h hl (by simp [AB.own, hnil]) (B := .row ty k' n (spliceG g i of vs)) hnew trivial (fun _ _ _ => by simp) (fun b hb => setRow_other w _ _ _ hb) (by simp) rfl rfl rfl
        have hrun := run_storeAt (P := P) (w := w) hs (v := (opnd fr y).conc E) (b := E.blk l) (o := E.base l + i * k' + of) hcur (by rw [hcc, ← hv1]; exact c1) (by omega) (by rw [hcc, ← hv1]; exact hv2)
        refine ⟨.skip, _, _, E, _, ?_, .inr ⟨rfl, rfl⟩, hst, Nat.zero_le _, undef_ok, hq⟩
        have e1 : (opnd fr x).conc E = .pointer (some ⟨E.blk l, E.base l + i * k' + of, none⟩) := by rw [hx]; rfl
        rw [hcc, ← hv1] at hrun
        simp only [execOp, hop, hf.eval, e1, Sem.run_bind, hrun, Result.andThen_ok, Sem.run_pure, c1]
      · cases hq
    · cases hq
  · cases hq

end
end Go.Proofs.Ythckkoledhjmeaa.Ev
