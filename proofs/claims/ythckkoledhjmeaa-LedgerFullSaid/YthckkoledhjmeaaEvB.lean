/-
  The abstract evaluator: what its data stand for, and that an operation that touches no memory gives what the evaluator says.
-/
import Derived.Test.YthckkoledhjmeaaEvA
namespace Go.Proofs.Ythckkoledhjmeaa.Ev
open Go

structure Env where
  blk : Nat → Nat
  base : Nat → Nat
  cap : Nat → Nat
  nil : Nat → Bool

def SV.conc (E : Env) : SV → Value
  | .c v => v
  | .d v => v
  | .ptr l o => .pointer (some ⟨E.blk l, o, none⟩)
  | .rp l k i o => .pointer (some ⟨E.blk l, E.base l + i * k + o, none⟩)
  | .sl l k i n z => match E.nil l with
    | true => .slice none 0 0
    | false => .slice (some ⟨E.blk l, E.base l + (if i = E.cap l then z else i) * k, none⟩) n (E.cap l - i)
  | .mp l => .map (some (E.blk l))
  | .fn f caps => .func (.func f) #[] (caps.map fun p => Value.pointer (some ⟨E.blk p.1, p.2, none⟩)).toArray

def EV.conc (E : Env) : EV → Value
  | .s x => x.conc E
  | .agg cs => .agg (cs.map (SV.conc E)).toArray

def AV.conc (E : Env) : AV → Value
  | .e x => x.conc E
  | .tup vs => .tuple (vs.map (EV.conc E)).toArray

structure Env.Agree (n : Nat) (E E' : Env) : Prop where
  blk : ∀ l, l < n → E'.blk l = E.blk l
  base : ∀ l, l < n → E'.base l = E.base l
  cap : ∀ l, l < n → E'.cap l = E.cap l
  nil : ∀ l, l < n → E'.nil l = E.nil l

theorem Env.Agree.refl (n : Nat) (E : Env) : Env.Agree n E E := ⟨fun _ _ => rfl, fun _ _ => rfl, fun _ _ => rfl, fun _ _ => rfl⟩

theorem Env.Agree.mono {m n : Nat} {E E' : Env} (h : Env.Agree n E E') (hm : m ≤ n) : Env.Agree m E E' :=
  ⟨fun l hl => h.blk l (by omega), fun l hl => h.base l (by omega), fun l hl => h.cap l (by omega), fun l hl => h.nil l (by omega)⟩

theorem Env.Agree.trans {n : Nat} {E E' E'' : Env} (h : Env.Agree n E E') (k : Env.Agree n E' E'') : Env.Agree n E E'' :=
  ⟨fun l hl => (k.blk l hl).trans (h.blk l hl), fun l hl => (k.base l hl).trans (h.base l hl), fun l hl => (k.cap l hl).trans (h.cap l hl), fun l hl => (k.nil l hl).trans (h.nil l hl)⟩

theorem caps_ref {n : Nat} : ∀ {caps : List (Nat × Nat)}, caps.foldr (fun p n => max (p.1 + 1) n) 0 ≤ n → ∀ p ∈ caps, p.1 < n
  | [], _, p, hp => by cases hp
  | q :: r, h, p, hp => by
    simp only [List.foldr_cons] at h
    rcases List.mem_cons.1 hp with rfl | hp
    · omega
    · exact caps_ref (caps := r) (by omega) p hp

theorem SV.conc_agree {n : Nat} {E E' : Env} (h : Env.Agree n E E') {x : SV} (hx : x.ref ≤ n) : x.conc E' = x.conc E := by
  cases x with
  | c v => rfl
  | d v => rfl
  | ptr l o => simp only [SV.ref] at hx; simp only [SV.conc, h.blk l (by omega)]
  | rp l k i o => simp only [SV.ref] at hx; simp only [SV.conc, h.blk l (by omega), h.base l (by omega)]
  | sl l k i n z => simp only [SV.ref] at hx; simp only [SV.conc, h.blk l (by omega), h.base l (by omega), h.cap l (by omega), h.nil l (by omega)]
  | mp l => simp only [SV.ref] at hx; simp only [SV.conc, h.blk l (by omega)]
  | fn f caps =>
    simp only [SV.ref] at hx
    simp only [SV.conc]
    rw [List.map_congr_left fun p hp => by rw [h.blk p.1 (caps_ref hx p hp)]]

theorem refs_le {n : Nat} : ∀ {cs : List SV}, refs cs ≤ n ↔ ∀ x ∈ cs, x.ref ≤ n
  | [] => by simp [refs]
  | y :: r => by
    have ih := refs_le (n := n) (cs := r)
    simp only [refs, List.foldr_cons, List.mem_cons, forall_eq_or_imp] at ih ⊢
    rw [← ih]; omega

theorem SV.map_agree {n : Nat} {E E' : Env} (h : Env.Agree n E E') {cs : List SV} (hx : refs cs ≤ n) : cs.map (SV.conc E') = cs.map (SV.conc E) :=
  List.map_congr_left fun x hm => SV.conc_agree h (refs_le.1 hx x hm)

theorem EV.conc_agree {n : Nat} {E E' : Env} (h : Env.Agree n E E') {x : EV} (hx : x.ref ≤ n) : x.conc E' = x.conc E := by
  cases x with
  | s x => exact SV.conc_agree h hx
  | agg cs => simp only [EV.conc, SV.map_agree h hx]

theorem tup_ref {n : Nat} : ∀ {vs : List EV}, vs.foldr (fun x n => max x.ref n) 0 ≤ n ↔ ∀ x ∈ vs, x.ref ≤ n
  | [] => by simp
  | y :: r => by
    have ih := tup_ref (n := n) (vs := r)
    simp only [List.foldr_cons, List.mem_cons, forall_eq_or_imp] at ih ⊢
    rw [← ih]; omega

theorem AV.conc_agree {n : Nat} {E E' : Env} (h : Env.Agree n E E') {x : AV} (hx : x.ref ≤ n) : x.conc E' = x.conc E := by
  cases x with
  | e x => exact EV.conc_agree h hx
  | tup vs =>
    simp only [AV.conc]
    rw [List.map_congr_left fun x hm => EV.conc_agree h (tup_ref.1 hx x hm)]

/-- A slice is of a row's own. -/
def SV.ok (E : Env) : SV → Prop
  | .sl l _ i n _ => (E.nil l = true → n = 0) ∧ (E.nil l = false → i + n ≤ E.cap l)
  | _ => True

def EV.svs : EV → List SV
  | .s x => [x]
  | .agg cs => cs

def AV.svs : AV → List SV
  | .e x => x.svs
  | .tup vs => vs.flatMap EV.svs

def AV.ok (E : Env) (v : AV) : Prop := ∀ x ∈ v.svs, x.ok E

theorem SV.ok_agree {n : Nat} {E E' : Env} (h : Env.Agree n E E') {x : SV} (hx : x.ref ≤ n) (ho : x.ok E) : x.ok E' := by
  cases x <;> simp only [SV.ok] at ho ⊢
  case sl l k i m z =>
    simp only [SV.ref] at hx
    rw [h.nil l (by omega), h.cap l (by omega)]
    exact ho

theorem AV.svs_ref {n : Nat} {v : AV} (hv : v.ref ≤ n) : ∀ x ∈ v.svs, x.ref ≤ n := by
  cases v with
  | e x => cases x with
    | s y => intro x hx; simp only [AV.svs, EV.svs, List.mem_singleton] at hx; subst hx; exact hv
    | agg cs => exact refs_le.1 hv
  | tup vs =>
    intro x hx
    simp only [AV.svs, List.mem_flatMap] at hx
    obtain ⟨y, hy, hx⟩ := hx
    have h1 := tup_ref.1 hv y hy
    cases y with
    | s y => simp only [EV.svs, List.mem_singleton] at hx; subst hx; exact h1
    | agg cs => exact refs_le.1 h1 x hx

theorem AV.ok_agree {n : Nat} {E E' : Env} (h : Env.Agree n E E') {v : AV} (hv : v.ref ≤ n) (ho : v.ok E) : v.ok E' :=
  fun x hx => SV.ok_agree h (AV.svs_ref hv x hx) (ho x hx)

/-! ### Frames -/

structure FRep (E : Env) (n : Nat) (fr : List AV) (a : Act) : Prop where
  tmps : a.tmps = (fr.map (AV.conc E)).toArray
  sc : ∀ x ∈ fr, x.ref ≤ n
  ok : ∀ x ∈ fr, x.ok E
  defers : a.defers = []

theorem FRep.eval {E : Env} {n : Nat} {fr : List AV} {a : Act} (h : FRep E n fr a) (x : Operand) : a.eval x = (opnd fr x).conc E := by
  cases x with
  | tmp t =>
    simp only [Act.eval, opnd, h.tmps]
    by_cases ht : t < fr.length
    · simp [ht]
    · simp [AV.conc, undef, Array.getD, ht]
  | const v => rfl
  | global g => rfl
  | func f => rfl

theorem FRep.opnd_ref {E : Env} {n : Nat} {fr : List AV} {a : Act} (h : FRep E n fr a) (x : Operand) : (opnd fr x).ref ≤ n := by
  cases x with
  | tmp t =>
    simp only [opnd]
    rw [List.getD_eq_getElem?_getD]
    cases hx : fr[t]? with
    | none => simp [AV.ref]
    | some x => exact h.sc x (List.mem_of_getElem? hx)
  | const v => simp [opnd, AV.ref, EV.ref, SV.ref]
  | global g => simp [opnd, AV.ref, EV.ref, SV.ref]
  | func f => simp [opnd, AV.ref, EV.ref, SV.ref]

theorem FRep.opnd_ok {E : Env} {n : Nat} {fr : List AV} {a : Act} (h : FRep E n fr a) (x : Operand) : (opnd fr x).ok E := by
  cases x with
  | tmp t =>
    simp only [opnd]
    rw [List.getD_eq_getElem?_getD]
    cases hx : fr[t]? with
    | none => intro x hx; simp [AV.svs] at hx
    | some x => exact h.ok x (List.mem_of_getElem? hx)
  | const v => intro x hx; simp only [opnd, AV.c, AV.svs, EV.svs, List.mem_singleton] at hx; subst hx; trivial
  | global g => intro x hx; simp only [opnd, AV.c, AV.svs, EV.svs, List.mem_singleton] at hx; subst hx; trivial
  | func f => intro x hx; simp only [opnd, AV.svs, EV.svs, List.mem_singleton] at hx; subst hx; trivial

theorem FRep.put {E : Env} {n : Nat} {fr : List AV} {a : Act} (h : FRep E n fr a) (dst : Option Tmp) (v : AV) (hv : v.ref ≤ n) (ho : v.ok E) : FRep E n (put fr dst v) (a.put dst (v.conc E)) := by
  cases dst with
  | none => exact h
  | some d =>
    refine ⟨?_, fun x hx => ?_, fun x hx => ?_, h.defers⟩
    · simp only [Act.put, Ev.put, h.tmps, List.map_set]
      simp
    · rcases List.mem_or_eq_of_mem_set hx with hx | rfl
      · exact h.sc x hx
      · exact hv
    · rcases List.mem_or_eq_of_mem_set hx with hx | rfl
      · exact h.ok x hx
      · exact ho

theorem FRep.agree {E E' : Env} {n n' : Nat} {fr : List AV} {a : Act} (h : FRep E n fr a) (hE : Env.Agree n E E') (hn : n ≤ n') : FRep E' n' fr a :=
  ⟨by rw [h.tmps, List.map_congr_left fun x hx => AV.conc_agree hE (h.sc x hx)], fun x hx => Nat.le_trans (h.sc x hx) hn, fun x hx => AV.ok_agree hE (h.sc x hx) (h.ok x hx), h.defers⟩

/-! ### What an operation without memory gives -/

def R.gives : R → AV → Prop
  | .v x, y => x = y
  | .b t, y => y = .c (.bool t)
  | .need p r, y => p ∧ r.gives y
  | .bad, _ => False

end Go.Proofs.Ythckkoledhjmeaa.Ev
