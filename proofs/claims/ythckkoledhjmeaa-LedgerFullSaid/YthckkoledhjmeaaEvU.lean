/-
  What rows of packets hold; the first contract: two rows of packets are the same.
-/
import Derived.Test.YthckkoledhjmeaaEvT
namespace Go.Proofs.Ythckkoledhjmeaa.Ev
open Go

/-! ### What is known becomes pure data -/

def SV.toD : SV → SV
  | .c v => .d v
  | x => x

def EV.toD : EV → EV
  | .s x => .s x.toD
  | .agg cs => .agg (cs.map SV.toD)

def AV.toD : AV → AV
  | .e x => .e x.toD
  | .tup vs => .tup (vs.map EV.toD)

def AB.toD : AB → AB
  | .cells ty cs => .cells ty (cs.map SV.toD)
  | B => B

section
variable {E : Env}
theorem SV.toD_conc (x : SV) : x.toD.conc E = x.conc E ∧ x.toD.ref = x.ref ∧ (x.ok E → x.toD.ok E) := by cases x <;> exact ⟨rfl, rfl, fun h => h⟩

theorem cells_toD (cs : List SV) : (cs.map SV.toD).map (SV.conc E) = cs.map (SV.conc E) ∧ refs (cs.map SV.toD) = refs cs ∧ ((∀ x ∈ cs, x.ok E) → ∀ x ∈ cs.map SV.toD, x.ok E) := by
  refine ⟨?_, ?_, fun h x hx => ?_⟩
  · rw [List.map_map]; exact List.map_congr_left fun x _ => (SV.toD_conc x).1
  · induction cs with
    | nil => rfl
    | cons x xs ih => simp only [refs, List.map_cons, List.foldr_cons] at ih ⊢; rw [ih, (SV.toD_conc (E := E) x).2.1]
  · obtain ⟨y, hy, rfl⟩ := List.mem_map.1 hx
    exact (SV.toD_conc y).2.2 (h y hy)

theorem EV.toD_conc (x : EV) : x.toD.conc E = x.conc E ∧ x.toD.ref = x.ref ∧ ((∀ z ∈ x.svs, z.ok E) → ∀ z ∈ x.toD.svs, z.ok E) := by
  cases x with
  | s x => exact ⟨(SV.toD_conc x).1, (SV.toD_conc (E := E) x).2.1, fun h => by simpa [EV.svs, EV.toD] using (SV.toD_conc x).2.2 (by simpa [EV.svs] using h)⟩
  | agg cs => exact ⟨by simp only [EV.toD, EV.conc, (cells_toD cs).1], (cells_toD (E := E) cs).2.1, (cells_toD cs).2.2⟩

theorem AV.toD_conc (x : AV) : x.toD.conc E = x.conc E ∧ x.toD.ref = x.ref ∧ (x.ok E → x.toD.ok E) := by
  cases x with
  | e x => exact EV.toD_conc x
  | tup vs =>
    refine ⟨?_, ?_, fun h z hz => ?_⟩
    · simp only [AV.toD, AV.conc, List.map_map]
      rw [List.map_congr_left fun x _ => show (EV.conc E ∘ EV.toD) x = EV.conc E x from (EV.toD_conc (E := E) x).1]
    · simp only [AV.toD, AV.ref]
      induction vs with
      | nil => rfl
      | cons x xs ih => simp only [List.map_cons, List.foldr_cons]; rw [ih, (EV.toD_conc (E := E) x).2.1]
    · simp only [AV.toD, AV.svs, List.mem_flatMap, List.mem_map] at hz
      obtain ⟨y, ⟨u, hu, rfl⟩, hz⟩ := hz
      exact (EV.toD_conc u).2.2 (fun z hz => h z (by simp only [AV.svs, List.mem_flatMap]; exact ⟨u, hu, hz⟩)) z hz

theorem hrep_toD {H : Heap} {w : World} (h : HRep E H w) : HRep E (H.map AB.toD) w := by
  have get : ∀ {l : Nat} {C : AB}, (H.map AB.toD)[l]? = some C → ∃ B, H[l]? = some B ∧ C = B.toD := by
    intro l C hl
    rw [List.getElem?_map] at hl
    obtain ⟨B, hB, rfl⟩ := Option.map_eq_some_iff.1 hl
    exact ⟨B, hB, rfl⟩
  have own : ∀ (B : AB) b, B.toD.own b = B.own b := fun B b => by cases B <;> rfl
  have him : ∀ b, Im E (H.map AB.toD) b → Im E H b := by
    rintro b ⟨l, C, hl, ho, rfl⟩
    obtain ⟨B, hB, rfl⟩ := get hl
    exact ⟨l, B, hB, by rw [← own]; exact ho, rfl⟩
  refine ⟨fun l C hl => ?_, fun l C hl => ?_, fun l l' C C' hl hl' ho ho' he => ?_, fun l k n g hl hn hi => ?_⟩
  · obtain ⟨B, hB, rfl⟩ := get hl
    have hr := h.rep l B hB
    cases B <;> simp only [AB.toD] <;> try exact hr
    simp only [BRep, (cells_toD _).1] at hr ⊢
    exact hr
  · obtain ⟨B, hB, rfl⟩ := get hl
    have hr := h.ok l B hB
    rw [List.length_map]
    cases B <;> simp only [AB.toD] <;> try exact hr
    rename_i ty cs
    exact ⟨by rw [(cells_toD (E := E) cs).2.1]; exact hr.1, (cells_toD cs).2.2 hr.2⟩
  · obtain ⟨B, hB, rfl⟩ := get hl
    obtain ⟨B', hB', rfl⟩ := get hl'
    rw [own] at ho ho'
    exact h.inj l l' B B' hB hB' ho ho' he
  · obtain ⟨B, hB, he⟩ := get hl
    have : B = .ro k n g := by cases B <;> simp [AB.toD] at he ⊢; exact ⟨he.1.symm, he.2.1.symm, he.2.2.symm⟩
    subst this
    exact h.ro l k n g hB hn (him _ hi)

end

theorem Re.toD {n0 : Nat} {fr : List AV} {H : Heap} {R : List AV → Heap → Prop} (h : Re n0 (fr.map AV.toD) (H.map AB.toD) R) : Re n0 fr H R := by
  intro E w h1 h2 h3
  have hst : Step n0 E H w E (H.map AB.toD) w := by
    refine ⟨.refl _ _, by simpa using h3, hrep_toD h1, rfl, rfl, rfl, Nat.le_refl _, fun _ _ _ => rfl, fun b _ => ?_⟩
    rintro ⟨l, C, hl, ho, rfl⟩
    rw [List.getElem?_map] at hl
    obtain ⟨B, hB, rfl⟩ := Option.map_eq_some_iff.1 hl
    exact ⟨l, B, hB, by cases B <;> exact ho, rfl⟩
  obtain ⟨fr3, H3, E3, k1, k2, k3, k4⟩ := h E w hst.rep (fun x hx => by
    obtain ⟨y, hy, rfl⟩ := List.mem_map.1 hx
    rw [List.length_map, (AV.toD_conc (E := E) y).2.1]
    exact ⟨(h2 y hy).1, (AV.toD_conc y).2.2 (h2 y hy).2⟩) hst.len
  refine ⟨fr3, H3, E3, hst.trans k1 (Nat.le_refl _), ?_, k3, k4⟩
  rw [k2, List.map_map]
  exact List.map_congr_left fun x _ => (AV.toD_conc x).1

/-! ### Rows of packets -/

instance : DecidableEq Pkt := fun a b => decidable_of_iff (a.seq = b.seq ∧ a.mi = b.mi ∧ a.size = b.size ∧ a.sent = b.sent) (by cases a; cases b; simp)

def pkF (f : Nat → Pkt) : Nat → List Value := fun j => (f j).vals
def pkG (es : List Pkt) : Nat → List Value := fun j => (es.getD j Pkt.zero).vals

def decPkt : List Value → Pkt
  | [.int .u64 a, .int .i64 b, .int .i64 c, .int .i64 d] => ⟨a, b, c, d⟩
  | _ => Pkt.zero

@[simp] theorem dec_vals (p : Pkt) : decPkt p.vals = p := rfl

/-- Rows of packets. -/
def PkRow (n : Nat) (g : Nat → List Value) : Prop := ∀ j, j < n → g j = (decPkt (g j)).vals

theorem pkRow_F (n : Nat) (f : Nat → Pkt) : PkRow n (pkF f) := fun _ _ => rfl
theorem pkRow_G (n : Nat) (es : List Pkt) : PkRow n (pkG es) := fun _ _ => rfl

def samePk (n : Nat) (f : Nat → Pkt) (m : Nat) (g : Nat → Pkt) : Bool := n == m && (List.range n).all fun j => decide (f j = g j)

theorem samePk_iff {n m : Nat} {f g : Nat → Pkt} : samePk n f m g = true ↔ n = m ∧ ∀ j, j < n → f j = g j := by
  simp [samePk]

end Go.Proofs.Ythckkoledhjmeaa.Ev
