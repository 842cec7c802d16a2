/-
  The abstract evaluator: loops, told by the slots that are read later; what is shown of a function in a heap of its own, in whatever heap.
-/
import Derived.Test.YthckkoledhjmeaaEvQ
namespace Go.Proofs.Ythckkoledhjmeaa.Ev
open Go

/-! ### Frames by the slots that are read later -/

def posL (i : Nat) : List Nat → Option Nat
  | [] => none
  | j :: js => match Nat.beq i j with
    | true => some 0
    | false => (posL i js).map (· + 1)

def slim (live : List Nat) (fr : List AV) : List AV := live.map fun i => fr.getD i undefA

def fat (live : List Nat) (vs : Nat → Value) (xs : List AV) : Nat → Nat → List AV
  | 0, _ => []
  | n + 1, i => (match posL i live with | some p => xs.getD p undefA | none => .d (vs i)) :: fat live vs xs n (i + 1)

theorem posL_get : ∀ {live : List Nat} {i p : Nat}, posL i live = some p → live[p]? = some i
  | [], i, p, h => by cases h
  | j :: js, i, p, h => by
    unfold posL at h
    split at h
    · rename_i hb; cases h; rw [Nat.eq_of_beq_eq_true hb]; rfl
    · cases hp : posL i js with
      | none => rw [hp] at h; cases h
      | some q => rw [hp] at h; cases h; simpa using posL_get hp

theorem fat_map {E : Env} {live : List Nat} {vs : Nat → Value} {xs : List AV} {fr : List AV} (h : ∀ i, i < fr.length → (match posL i live with | some p => xs.getD p undefA | none => .d (vs i)).conc E = (fr.getD i undefA).conc E) :
    (fat live vs xs fr.length 0).map (AV.conc E) = fr.map (AV.conc E) := by
  have key : ∀ (n i : Nat), i + n = fr.length → (fat live vs xs n i).map (AV.conc E) = (fr.drop i).map (AV.conc E) := by
    intro n
    induction n with
    | zero => intro i hi; rw [List.drop_of_length_le (by omega)]; rfl
    | succ n ih =>
      intro i hi
      have hlt : i < fr.length := by omega
      rw [List.drop_eq_getElem_cons hlt, List.map_cons, ← ih (i + 1) (by omega)]
      simp only [fat, List.map_cons]
      rw [h i hlt]
      simp [hlt]
  simpa using key fr.length 0 (by omega)

theorem fat_mem {live : List Nat} {vs : Nat → Value} {xs : List AV} {p : AV → Prop} (hx : ∀ x ∈ xs, p x) (hu : p undefA) (hd : ∀ v, p (.d v)) : ∀ (n i : Nat), ∀ x ∈ fat live vs xs n i, p x
  | 0, i, x, h => by simp [fat] at h
  | n + 1, i, x, h => by
    simp only [fat, List.mem_cons] at h
    rcases h with h | h
    · subst h
      split
      · rename_i q _
        rw [List.getD_eq_getElem?_getD]
        cases hq : xs[q]? with
        | none => exact hu
        | some y => exact hx y (List.mem_of_getElem? hq)
      · exact hd _
    · exact fat_mem hx hu hd n (i + 1) x h

theorem slim_mem {live : List Nat} {fr : List AV} {p : AV → Prop} (hx : ∀ x ∈ fr, p x) (hu : p undefA) : ∀ x ∈ slim live fr, p x := by
  intro x h
  obtain ⟨i, _, rfl⟩ := List.mem_map.1 h
  rw [List.getD_eq_getElem?_getD]
  cases hq : fr[i]? with
  | none => exact hu
  | some y => exact hx y (List.mem_of_getElem? hq)

/-- A frame is told by its slots that are read later. -/
theorem FRep.slim {E : Env} {n : Nat} {fr : List AV} {a : Act} (h : FRep E n fr a) (live : List Nat) : ∃ vs, FRep E n (fat live vs (Ev.slim live fr) fr.length 0) a := by
  refine ⟨fun i => (fr.getD i undefA).conc E, ?_, fat_mem (slim_mem h.sc (Nat.zero_le _)) (Nat.zero_le _) (fun _ => Nat.zero_le _) _ _, fat_mem (slim_mem h.ok undef_ok) undef_ok (fun _ => ok_s.2 trivial) _ _, h.defers⟩
  rw [h.tmps, fat_map fun i hi => ?_]
  split
  · rename_i p hp
    have := posL_get hp
    simp only [Ev.slim]
    rw [List.getD_eq_getElem?_getD, List.getElem?_map, this]
    rfl
  · rfl

theorem FRep.fat {E E2 : Env} {n n2 N : Nat} {xs ys : List AV} {live : List Nat} {vs : Nat → Value} {a : Act} (h : FRep E n (Ev.fat live vs xs N 0) a) (he : ys.map (AV.conc E2) = xs.map (AV.conc E)) (hy : ∀ x ∈ ys, x.ref ≤ n2 ∧ x.ok E2) : FRep E2 n2 (Ev.fat live vs ys N 0) a := by
  refine ⟨?_, fat_mem (fun x hx => (hy x hx).1) (Nat.zero_le _) (fun _ => Nat.zero_le _) _ _, fat_mem (fun x hx => (hy x hx).2) undef_ok (fun _ => ok_s.2 trivial) _ _, h.defers⟩
  rw [h.tmps]
  have key : ∀ (n i : Nat), (Ev.fat live vs ys n i).map (AV.conc E2) = (Ev.fat live vs xs n i).map (AV.conc E) := by
    intro n
    induction n with
    | zero => intro i; rfl
    | succ n ih =>
      intro i
      simp only [Ev.fat, List.map_cons, ih]
      congr 1
      split
      · rename_i p _
        have := congrArg (·[p]?) he
        simp only [List.getElem?_map] at this
        rw [List.getD_eq_getElem?_getD, List.getD_eq_getElem?_getD]
        cases h1 : ys[p]? <;> cases h2 : xs[p]? <;> simp [h1, h2] at this ⊢
        · rfl
        · exact this
      · rfl
  rw [key]

/-- Where a round ends. -/
def endK (live : List Nat) (N : Nat) (e : Exit) (σ' : St) : T (Exit × List AV × Heap) :=
  match Nat.beq σ'.fr.length N with
  | true => .ret (e, slim live σ'.fr, σ'.H)
  | false => .fail

/-- A round. -/
def bodyT (P : Program) (l : List (Nat × Ent)) (m : Nat) (ord : Nat → Ct) (n0 : Nat) (c : Code) (live : List Nat) (N : Nat) (xs : List AV) (H : Heap) (vs : Nat → Value) : T (Exit × List AV × Heap) :=
  codeT P (callT P (entL l) m) ord n0 0 c ⟨fat live vs xs N 0, H⟩ (endK live N)

/-- A loop. -/
theorem code_loop {P : Program} (hP : Fine P) {l : List (Nat × Ent)} (hl : EntsOk P l) (m : Nat) {ord : Nat → Ct} {n0 N : Nat} {live : List Nat} {c : Code} (hB : codeB ord c = true) {Q : Exit → St → Prop}
    (I : List AV → Heap → Prop) (μ : List AV → Heap → Nat) (hn : ∀ xs H, I xs H → n0 ≤ H.length)
    (hI : ∀ xs H vs, I xs H → (bodyT P l m ord n0 c live N xs H vs).sat P fun x => match x.1 with
      | .normal => Re n0 x.2.1 x.2.2 fun xs2 H2 => I xs2 H2 ∧ μ xs2 H2 < μ xs H
      | e => ∀ vs, Q e ⟨fat live vs x.2.1 N 0, x.2.2⟩) {σ : St} (hN : σ.fr.length = N) (h0 : Re n0 (slim live σ.fr) σ.H I) : CodeA P n0 (.loop c) σ Q := by
  intro E w a hr hf hn0
  obtain ⟨vs0, hf0⟩ := hf.slim live
  obtain ⟨xs1, H1, E1, g1, g2, g3, g4⟩ := h0 E w hr (slim_mem (fun x hx => ⟨hf.sc x hx, hf.ok x hx⟩) ⟨Nat.zero_le _, undef_ok⟩) hn0
  rw [hN] at hf0
  have hf1 := hf0.fat g2 g3
  have key : ∀ (n : Nat) (xs : List AV) (H : Heap) (vs : Nat → Value) (E1 : Env) (a : Act) (w : World), μ xs H < n → HRep E1 H w → FRep E1 H.length (fat live vs xs N 0) a → (∀ x ∈ xs, x.ref ≤ H.length ∧ x.ok E1) → I xs H → Code.rounds P c (CodeQ n0 E1 H w Q) n a w := by
    intro n
    induction n with
    | zero => intro xs H vs E1 a w h; omega
    | succ n ih =>
      intro xs H vs E1 a w hμ hr hf hxs hI1
      rw [rounds_succ]
      refine wp_mono (code_sat (Q0 := fun x : Exit × List AV × Heap => match x.1 with
        | .normal => Re n0 x.2.1 x.2.2 fun xs2 H2 => I xs2 H2 ∧ μ xs2 H2 < μ xs H
        | e => ∀ vs, Q e ⟨fat live vs x.2.1 N 0, x.2.2⟩) hP (call_sat hP hl.ent m) c E1 ⟨fat live vs xs N 0, H⟩ a w _ hB hr hf (hn xs H hI1) (hI xs H vs hI1)) ?_
      rintro e a' w' ⟨σ', E', h1, h2, h3⟩
      unfold endK at h3
      split at h3
      · rename_i hb
        have hlen := Nat.eq_of_beq_eq_true hb
        obtain ⟨vs', hf'⟩ := h2.slim live
        rw [hlen] at hf'
        cases e with
        | normal =>
          obtain ⟨xs2, H2, E2, k1, k2, k3, k4, k5⟩ := h3 E' w' h1.rep (slim_mem (fun x hx => ⟨h2.sc x hx, h2.ok x hx⟩) ⟨Nat.zero_le _, undef_ok⟩) h1.len
          exact rounds_mono n (fun _ _ _ hq => hq.trans (h1.trans k1 (Nat.le_refl _))) (ih xs2 H2 vs' E2 a' w' (by omega) k1.rep (hf'.fat k2 k3) k3 k4)
        | exit id => exact ⟨⟨fat live vs' (slim live σ'.fr) N 0, σ'.H⟩, E', h1, hf', h3 vs'⟩
        | goto l => exact ⟨⟨fat live vs' (slim live σ'.fr) N 0, σ'.H⟩, E', h1, hf', h3 vs'⟩
        | ret => exact ⟨⟨fat live vs' (slim live σ'.fr) N 0, σ'.H⟩, E', h1, hf', h3 vs'⟩
        | panic ch => exact ⟨⟨fat live vs' (slim live σ'.fr) N 0, σ'.H⟩, E', h1, hf', h3 vs'⟩
        | outgrown => exact ⟨⟨fat live vs' (slim live σ'.fr) N 0, σ'.H⟩, E', h1, hf', h3 vs'⟩
      · exact h3.elim
  refine wp_mono (wp_loop_rounds (μ xs1 H1 + 1) (key (μ xs1 H1 + 1) xs1 H1 vs0 E1 a w (by omega) g1.rep hf1 g3 g4)) ?_
  rintro e a' w' hq
  exact CodeQ.trans g1 hq

/-- What a call hands back, told in another way. -/
theorem CallsA.re {P : Program} {f : Nat} {args : List AV} {H : Heap} {Q : AV → Heap → Prop} (h : CallsA P f args H fun r H' => Re H.length [r] H' fun fr H2 => ∃ r2, fr = [r2] ∧ Q r2 H2) : CallsA P f args H Q := by
  intro E w hr ha
  refine (h E w hr ha).mono ?_
  rintro e w' ⟨r, H', E', rfl, h1, h2, h3, h4⟩
  obtain ⟨fr2, H2, E2, g1, g2, g3, r2, rfl, g4⟩ := h4 E' w' h1.rep (by simp; exact ⟨h2, h3⟩) h1.len
  simp only [List.map_cons, List.map_nil, List.cons.injEq, and_true] at g2
  exact ⟨r2, H2, E2, by rw [g2], h1.trans g1 (Nat.le_refl _), (g3 r2 (by simp)).1, (g3 r2 (by simp)).2, g4⟩

/-- Arguments that stand for the same values. -/
theorem CallsA.same {P : Program} {f : Nat} {args args' : List AV} {H : Heap} {Q : AV → Heap → Prop} (hc : ∀ E, args.map (AV.conc E) = args'.map (AV.conc E)) (hs : ∀ E n, (∀ x ∈ args', x.ref ≤ n ∧ x.ok E) → ∀ x ∈ args, x.ref ≤ n ∧ x.ok E) (h : CallsA P f args H Q) : CallsA P f args' H Q := by
  intro E w hr ha
  rw [← hc E]
  exact h E w hr (hs E _ ha)

end Go.Proofs.Ythckkoledhjmeaa.Ev
