/-
  The abstract evaluator: operations that turn memory.
-/
import Derived.Test.YthckkoledhjmeaaEvF
namespace Go.Proofs.Ythckkoledhjmeaa.Ev
open Go

def Env.push (E : Env) (n b base cap : Nat) (nil : Bool) : Env where
  blk l := if l = n then b else E.blk l
  base l := if l = n then base else E.base l
  cap l := if l = n then cap else E.cap l
  nil l := if l = n then nil else E.nil l

theorem Env.push_agree (E : Env) (n b base cap : Nat) (nil : Bool) : Env.Agree n E (E.push n b base cap nil) :=
  ⟨fun l hl => if_neg (by omega), fun l hl => if_neg (by omega), fun l hl => if_neg (by omega), fun l hl => if_neg (by omega)⟩

section
variable (E : Env) (n b base cap : Nat) (nil : Bool)
@[simp] theorem Env.push_blk : (E.push n b base cap nil).blk n = b := if_pos rfl
@[simp] theorem Env.push_base : (E.push n b base cap nil).base n = base := if_pos rfl
@[simp] theorem Env.push_cap : (E.push n b base cap nil).cap n = cap := if_pos rfl
@[simp] theorem Env.push_nil : (E.push n b base cap nil).nil n = nil := if_pos rfl
end

/-! ### Rows told one behind the other -/

def flatG (g : Nat → List Value) (i n : Nat) : List Value := (List.range n).flatMap fun j => g (i + j)

theorem flatG_succ (g : Nat → List Value) (i n : Nat) : flatG g i (n + 1) = flatG g i n ++ g (i + n) := by
  simp [flatG, List.range_succ]

theorem flatG_length (g : Nat → List Value) (i k : Nat) : ∀ n, (∀ j, j < n → (g (i + j)).length = k) → (flatG g i n).length = n * k
  | 0, _ => by simp [flatG]
  | n + 1, h => by
    rw [flatG_succ, List.length_append, flatG_length g i k n (fun j hj => h j (by omega)), h n (by omega), Nat.add_mul, Nat.one_mul]

theorem flatG_get (g : Nat → List Value) (i k : Nat) : ∀ n, (∀ j, j < n → (g (i + j)).length = k) → ∀ j r, j < n → r < k → (flatG g i n)[j * k + r]? = (g (i + j))[r]?
  | 0, _, j, r, hj, _ => by omega
  | n + 1, h, j, r, hj, hr => by
    have hl := flatG_length g i k n (fun j hj => h j (by omega))
    rw [flatG_succ]
    by_cases hjn : j < n
    · have : (j + 1) * k ≤ n * k := Nat.mul_le_mul_right k hjn
      rw [Nat.add_mul, Nat.one_mul] at this
      rw [List.getElem?_append_left (by omega), flatG_get g i k n (fun j hj => h j (by omega)) j r hjn hr]
    · have : j = n := by omega
      subst this
      rw [List.getElem?_append_right (by omega), hl]
      congr 1
      omega

theorem flatG_one (g : Nat → List Value) (i : Nat) : ∀ n, (∀ j, j < n → ∀ v ∈ g (i + j), v.oneCell' = true) → ∀ v ∈ flatG g i n, v.oneCell' = true := by
  intro n h v hv
  simp only [flatG, List.mem_flatMap, List.mem_range] at hv
  obtain ⟨j, hj, hv⟩ := hv
  exact h j hj v hv

/-- What lies at a place in a flat row. -/
theorem flat_cell {g : Nat → List Value} {i n k : Nat} (h : ∀ j, j < n → (g (i + j)).length = k) {x : Nat} {v : Value} (hx : (flatG g i n)[x]? = some v) : ∃ j r, j < n ∧ r < k ∧ x = j * k + r ∧ (g (i + j))[r]? = some v := by
  have hl := flatG_length g i k n h
  have hlt : x < n * k := by rw [← hl]; exact (List.getElem?_eq_some_iff.1 hx).1
  have hk : 0 < k := by
    rcases Nat.eq_zero_or_pos k with h0 | h0
    · subst h0; simp at hlt
    · exact h0
  have h1 : x = x / k * k + x % k := by rw [Nat.mul_comm]; exact (Nat.div_add_mod x k).symm
  have h2 : x / k < n := (Nat.div_lt_iff_lt_mul hk).2 hlt
  have h3 : x % k < k := Nat.mod_lt _ hk
  refine ⟨x / k, x % k, h2, h3, h1, ?_⟩
  rw [← flatG_get g i k n h _ _ h2 h3, ← h1]
  exact hx

section
variable {P : Program} {E : Env} {H : Heap} {fr : List AV} {a : Act} {w : World}

/-- A step that an operation does. -/
def EffOk (P : Program) (E : Env) (H : Heap) (w : World) (a : Act) (o : Oper) (Q : AV × Heap → Prop) : Prop :=
  ∃ (nx : Next) (v : AV) (H' : Heap) (E' : Env) (w' : World), (execOp a.eval o).run P w = .ok nx w' ∧ (nx = .value (v.conc E') ∨ (nx = .skip ∧ v = undefA)) ∧
    Step H.length E H w E' H' w' ∧ v.ref ≤ H'.length ∧ v.ok E' ∧ Q (v, H')

theorem undef_ref : undefA.ref = 0 := rfl
theorem undef_ok : undefA.ok E := by intro x hx; simp [AV.svs] at hx

theorem alloc_step (h : HRep E H w) (t : Nat) (cs : List SV) (hr : refs cs ≤ H.length) (ho : ∀ x ∈ cs, x.ok E) (out : Array Value) (hout : out.toList = cs.map (SV.conc E)) :
    Step H.length E H w (E.push H.length w.heap.size 0 0 false) (H ++ [.cells t cs]) (w.alloc (.cells out t)) := by
  have hE := Env.push_agree E H.length w.heap.size 0 0 false
  refine step_push h hE (fun _ => by simp) ?_ ⟨by omega, fun x hx => SV.ok_agree hE (refs_le.1 hr x hx) (ho x hx)⟩ (fun _ _ _ => by simp) (fun b hb => heap_alloc_old w _ hb) (by simp) rfl rfl rfl
  simp only [BRep, Env.push_blk, heap_alloc_new]
  rw [SV.map_agree hE hr, ← hout]

theorem cells_ok {v : AV} {cs : List SV} (hv : v.cells = some cs) (h1 : v.ok E) : ∀ x ∈ cs, x.ok E := by
  cases v with
  | tup vs => simp [AV.cells] at hv
  | e y => cases y with
    | s z =>
      simp only [AV.cells] at hv
      split at hv
      · simp only [Option.some.injEq] at hv
        subst hv
        intro x hx
        simp only [List.mem_singleton] at hx
        subst hx
        exact ok_s.1 h1
      · cases hv
    | agg es =>
      simp only [AV.cells, Option.some.injEq] at hv
      subst hv
      exact h1

theorem vals_conc : ∀ {cs : List SV} {vs : List Value}, vals cs = some vs → vs = cs.map (SV.conc E) ∧ ∀ v ∈ vs, v.oneCell' = true
  | [], vs, h => by simp only [vals, Option.some.injEq] at h; subst h; simp
  | x :: xs, vs, h => by
    simp only [vals] at h
    cases hx : x.val with
    | none => simp [hx] at h
    | some v => cases hxs : vals xs with
      | none => simp [hx, hxs] at h
      | some us =>
        simp only [hx, hxs, Option.some.injEq] at h
        subst h
        obtain ⟨h1, h2⟩ := vals_conc hxs
        have h3 : v = x.conc E ∧ v.oneCell' = true := by
          cases x <;> simp only [SV.val] at hx <;> try (cases hx; done)
          all_goals
            split at hx
            · simp only [Option.some.injEq] at hx; subst hx; exact ⟨rfl, by assumption⟩
            · cases hx
        refine ⟨by rw [List.map_cons, ← h3.1, ← h1], ?_⟩
        simp only [List.mem_cons, forall_eq_or_imp]
        exact ⟨h3.2, h2⟩

theorem store_step (h : HRep E H w) {l ty : Nat} {ds cs : List SV} {o : Nat} (hl : H[l]? = some (.cells ty ds)) (hr : refs cs ≤ H.length) (ho : ∀ x ∈ cs, x.ok E) (_ : o + cs.length ≤ ds.length) :
    Step H.length E H w E (H.set l (.cells ty (ds.take o ++ cs ++ ds.drop (o + cs.length)))) (w.setRow (E.blk l) ((ds.map (SV.conc E)).take o ++ cs.map (SV.conc E) ++ (ds.map (SV.conc E)).drop (o + cs.length)).toArray) := by
  have hrep := h.rep l _ hl
  have hok := h.ok l _ hl
  refine step_set h hl rfl ?_ ⟨?_, ?_⟩ (fun _ _ _ => by simp) (fun b hb => setRow_other w _ _ _ hb) (by simp) rfl rfl rfl
  · simp only [BRep] at hrep ⊢
    rw [setRow_heap w _ _ _ _ _ hrep]
    simp [List.map_take, List.map_drop]
  · rw [refs_le] at *
    intro x hx
    rcases List.mem_append.1 hx with hx | hx
    · rcases List.mem_append.1 hx with hx | hx
      · exact refs_le.1 hok.1 x (List.mem_of_mem_take hx)
      · exact hr x hx
    · exact refs_le.1 hok.1 x (List.mem_of_mem_drop hx)
  · intro x hx
    rcases List.mem_append.1 hx with hx | hx
    · rcases List.mem_append.1 hx with hx | hx
      · exact hok.2 x (List.mem_of_mem_take hx)
      · exact ho x hx
    · exact hok.2 x (List.mem_of_mem_drop hx)

end
end Go.Proofs.Ythckkoledhjmeaa.Ev
