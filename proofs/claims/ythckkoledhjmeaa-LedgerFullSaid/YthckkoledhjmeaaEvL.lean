/-
  The abstract evaluator: regions that have many orders.
-/
import Derived.OrdersHeld
import Derived.Test.YthckkoledhjmeaaEvK
namespace Go.Proofs.Ythckkoledhjmeaa.Ev
open Go

/-- Operation j comes behind operation i in every order. -/
inductive Dep (ops : Array Oper) (i : Nat) : Nat → Prop
  | one {j : Nat} {o : Oper} {e : Edge} (h : ops[j]? = some o) (he : e ∈ o.after) (hb : Region.binds .any e = true) (hi : e.on = i) : Dep ops i j
  | more {j : Nat} {o : Oper} {e : Edge} (h : ops[j]? = some o) (he : e ∈ o.after) (hb : Region.binds .any e = true) (hd : Dep ops i e.on) : Dep ops i j

abbrev Wc := Nat × (World → Prop)

/-- What is watched holds, but what only such an operation could break as comes behind it. -/
def Gd (F : Nat → Bool) (ops : Array Oper) (Γ : List Wc) (listed : Array Bool) (w : World) : Prop :=
  ∀ p ∈ Γ, (∀ k, F k = true → listed.getD k false = true → ¬ Dep ops p.1 k) → p.2 w

section
variable {P : Program} {ops : Array Oper} {Q : Exit → Act → World → Prop} {F : Nat → Bool} {Γ : List Wc}

theorem getD_keep {listed : Array Bool} {i k : Nat} (h : listed.getD k false = true) : (listed.setIfInBounds i true).getD k false = true := by
  by_cases he : i = k
  · subst he
    have hlt : i < listed.size := by
      rcases Nat.lt_or_ge i listed.size with h1 | h1
      · exact h1
      · simp [Array.getD, Nat.not_lt.2 h1] at h
    simp [hlt]
  · rw [getD_set_ne false he]; exact h

theorem Gd.keep {listed : Array Bool} {i : Nat} {w : World} (h : Gd F ops Γ listed w) : Gd F ops Γ (listed.setIfInBounds i true) w :=
  fun p hp hk => h p hp fun k hF hl => hk k hF (getD_keep hl)

theorem Gd.weak {listed : Array Bool} {p : Wc} {w : World} (h : Gd F ops (p :: Γ) listed w) : Gd F ops Γ listed w := fun q hq => h q (List.mem_cons_of_mem _ hq)

/-- Whatever order is picked from here on, what is watched holds behind every operation that is carried out. -/
def wpAnyG (P : Program) (ops : Array Oper) (Q : Exit → Act → World → Prop) (F : Nat → Bool) (Γ : List Wc) : Nat → Array Bool → Act → World → Prop
  | 0, listed, a, w => Region.ready .any ops listed = [] ∧ Q .normal a w
  | fuel + 1, listed, a, w =>
    (Region.ready .any ops listed = [] → Q .normal a w) ∧
    ∀ i ∈ Region.ready .any ops listed, wpOp P ops Q i (fun a' w' => Gd F ops Γ (listed.setIfInBounds i true) w' ∧ wpAnyG P ops Q F Γ fuel (listed.setIfInBounds i true) a' w') a w

theorem wpAny_of_G : ∀ (fuel : Nat) (listed : Array Bool) (a : Act) (w : World), wpAnyG P ops Q F Γ fuel listed a w → wpAny P .any ops Q fuel listed a w
  | 0, _, _, _, h => h
  | fuel + 1, _, _, _, h => ⟨h.1, fun i hi => wpOp_mono (fun a' w' h' => wpAny_of_G fuel _ a' w' h'.2) (h.2 i hi)⟩

theorem wpAnyG_weak {p : Wc} : ∀ (fuel : Nat) (listed : Array Bool) (a : Act) (w : World), wpAnyG P ops Q F (p :: Γ) fuel listed a w → wpAnyG P ops Q F Γ fuel listed a w
  | 0, _, _, _, h => h
  | fuel + 1, _, _, _, h => ⟨h.1, fun i hi => wpOp_mono (fun a' w' h' => ⟨h'.1.weak, wpAnyG_weak fuel _ a' w' h'.2⟩) (h.2 i hi)⟩

/-- An operation that may come up may be taken first. -/
theorem wpAnyG_first {i : Nat} {oi : Oper} {v : Value} {S : World → Prop} (hi : ops[i]? = some oi) (hsel : ∀ (j : Nat) (o : Oper) cs b, ops[j]? = some o → o.op ≠ .select cs b)
    (hQ : ∀ c a w, Q (.panic c) (a.put oi.dst v) w → Q (.panic c) a w) (hF : F i = false) :
    ∀ (fuel : Nat) (listed : Array Bool) (a : Act) (w : World),
      (∀ j oj, ops[j]? = some oj → j ≠ i → listed.getD j true = false → (∀ e ∈ oj.after, Region.binds .any e = true → e.on ≠ i) → oi.apart ops oj = true) →
      i ∈ Region.ready .any ops listed → (∀ k, listed.getD k false = true → ¬ Dep ops i k) → YieldsIf P ops S oi v a → S w → Gd F ops Γ listed w →
      wpAnyG P ops Q F ((i, S) :: Γ) fuel (listed.setIfInBounds i true) (a.put oi.dst v) w → wpAnyG P ops Q F Γ (fuel + 1) listed a w := by
  intro fuel
  induction fuel with
  | zero =>
    intro listed a w hfree hr hcl hy hS hG H
    refine ⟨fun h => (by rw [h] at hr; cases hr), fun j hj => ?_⟩
    by_cases hji : j = i
    · subst hji; exact hy.wpOp hi hS ⟨hG.keep, H⟩
    · have := ready_mono hj hji
      rw [H.1] at this
      cases this
  | succ fuel ih =>
    intro listed a w hfree hr hcl hy hS hG H
    refine ⟨fun h => (by rw [h] at hr; cases hr), fun j hj => ?_⟩
    by_cases hji : j = i
    · subst hji; exact hy.wpOp hi hS ⟨hG.keep, wpAnyG_weak _ _ _ _ H⟩
    · have h1 := H.2 j (ready_mono hj hji)
      obtain ⟨hjun, oj, hoj, hall⟩ := mem_ready.1 hj
      have hiun := (mem_ready.1 hr).1
      have hin : listed.getD i false ≠ true := by
        intro h0
        rcases Nat.lt_or_ge i listed.size with h' | h'
        · simp [h'] at h0 hiun; rw [hiun] at h0; cases h0
        · simp [Array.getElem?_eq_none h'] at h0
      have hnot : ∀ e ∈ oj.after, Region.binds .any e = true → e.on ≠ i := fun e he hb heq => hin (heq ▸ hall e he hb)
      have hdep : ¬ Dep ops i j := by
        intro hd
        cases hd with
        | one h he hb hh => rw [hoj] at h; cases h; exact hnot _ he hb hh
        | more h he hb hd => rw [hoj] at h; cases h; exact hcl _ (hall _ he hb) hd
      have h2 := wpOp_putIf hoj (hfree j oj hoj hji hjun hnot) (fun cs b => hsel i oi cs b hi) (fun cs b => hsel j oj cs b hoj) hQ hy h1
      have hfree' : ∀ k ok, ops[k]? = some ok → k ≠ i → (listed.setIfInBounds j true).getD k true = false →
          (∀ e ∈ ok.after, Region.binds .any e = true → e.on ≠ i) → oi.apart ops ok = true := fun k ok hk hki hun hno => by
        refine hfree k ok hk hki ?_ hno
        by_cases hjk : j = k
        · subst hjk; exact hjun
        · rw [getD_set_ne true hjk] at hun; exact hun
      have hcl' : ∀ k, (listed.setIfInBounds j true).getD k false = true → ¬ Dep ops i k := fun k hk => by
        by_cases hjk : j = k
        · subst hjk; exact hdep
        · rw [getD_set_ne false hjk] at hk; exact hcl k hk
      refine wpOp_mono (fun a' w' h3 => ?_) h2
      obtain ⟨hy', hGd, hrest⟩ := h3
      have hG' : Gd F ops Γ (listed.setIfInBounds j true) w' := fun p hp hk => hGd p (List.mem_cons_of_mem _ hp) fun k hFk hl => by
        by_cases hki : k = i
        · subst hki; rw [hF] at hFk; cases hFk
        · refine hk k hFk ?_
          rw [Array.setIfInBounds_comm _ _ (Ne.symm hji), getD_set_ne false (Ne.symm hki)] at hl
          exact hl
      have hS' : S w' := hGd (i, S) List.mem_cons_self fun k hFk hl => by
        by_cases hki : k = i
        · subst hki; rw [hF] at hFk; cases hFk
        · rw [Array.setIfInBounds_comm _ _ (Ne.symm hji), getD_set_ne false (Ne.symm hki)] at hl
          exact hcl' k hl
      refine ⟨hG', ih (listed.setIfInBounds j true) a' w' hfree' (ready_mono hr (Ne.symm hji)) hcl' hy' hS' hG' ?_⟩
      rw [Array.setIfInBounds_comm _ _ hji]
      exact hrest

end

/-! ### Orders that are held against a region -/

def edgeB (ops : Array Oper) (i j : Nat) : Bool :=
  match ops[i]? with
  | some o => o.after.any fun e => Region.binds .any e && e.on == j
  | none => false

def chainB (ops : Array Oper) : Nat → List Nat → Bool
  | _, [] => false
  | i, x :: r => edgeB ops i x && (r.isEmpty || chainB ops x r)

def Ct.forced : Ct → List Nat
  | .done => []
  | .take _ c => c.forced
  | .force i _ c => i :: c.forced
  | .two i _ ci j _ cj => i :: j :: (ci.forced ++ cj.forced)

def ordB (ops : Array Oper) (F : List Nat) : Nat → Array Bool → Ct → Bool
  | _, listed, .done => (Region.ready .any ops listed).isEmpty
  | n + 1, listed, .take i c => !F.contains i && Region.free .any ops listed i && (Region.ready .any ops listed).contains i && ordB ops F n (listed.setIfInBounds i true) c
  | n + 1, listed, .force i ds c => F.contains i && (Region.ready .any ops listed == [i]) && ds.all (chainB ops i) && ordB ops F n (listed.setIfInBounds i true) c
  | n + 1, listed, .two i di ci j dj cj => F.contains i && F.contains j && (Region.ready .any ops listed == [i, j]) && di.all (chainB ops i) && dj.all (chainB ops j) && ordB ops F n (listed.setIfInBounds i true) ci && ordB ops F n (listed.setIfInBounds j true) cj
  | 0, _, _ => false

def regB (ops : Array Oper) (c : Ct) : Bool := Region.noSelect ops && ordB ops c.forced ops.size (Array.replicate ops.size false) c

theorem edge_dep {ops : Array Oper} {i j : Nat} (h : edgeB ops i j = true) : Dep ops j i := by
  unfold edgeB at h
  split at h
  · rename_i o ho
    obtain ⟨e, he, hb⟩ := Array.any_eq_true'.1 h
    simp only [Bool.and_eq_true, beq_iff_eq] at hb
    exact .one ho he hb.1 hb.2
  · cases h

theorem Dep.cons {ops : Array Oper} {i j x : Nat} (h : edgeB ops i x = true) (hd : Dep ops j x) : Dep ops j i := by
  unfold edgeB at h
  split at h
  · rename_i o ho
    obtain ⟨e, he, hb⟩ := Array.any_eq_true'.1 h
    simp only [Bool.and_eq_true, beq_iff_eq] at hb
    exact .more ho he hb.1 (hb.2 ▸ hd)
  · cases h

theorem chain_dep {ops : Array Oper} : ∀ {d : List Nat} {i z : Nat}, chainB ops i d = true → Dep ops (d.getLastD z) i
  | [], _, _, h => by cases h
  | [x], _, _, h => by simp only [chainB, Bool.and_eq_true] at h; exact edge_dep h.1
  | x :: y :: r, i, z, h => by
    simp only [chainB, Bool.and_eq_true, List.isEmpty_cons, Bool.false_or] at h
    have h2 : chainB ops x (y :: r) = true := by simp only [chainB, Bool.and_eq_true]; exact h.2
    have := chain_dep (z := x) h2
    exact Dep.cons h.1 this

end Go.Proofs.Ythckkoledhjmeaa.Ev
