/-
  From the evaluator's contracts to the statements: how arguments read as rows.
-/
import Derived.Deep.Slices
import Derived.Deep.Fields
import Derived.ChangeSame
import Derived.Below
import Derived.Test.YthckkoledhjmeaaE3
namespace Go.Proofs.Ythckkoledhjmeaa.Ev
open Go Go.ChangeShapes Go.WideShapes Go.Deep Go.RowKit

/-- A call over memory that it does not own tells nothing but what it hands back. -/
theorem walk_of {f : Nat} {args : List AV} {H : Heap} {E : Env} {W : World} {Q : AV → Heap → Prop} (h : CallsA Try.prog f args H Q) (hr : HRep E H W) (ha : ∀ x ∈ args, x.ref ≤ H.length ∧ x.ok E) (hno : ∀ b, ¬ Im E H b)
    (hq : ∀ r H', Q r H' → r = .c (.bool true)) : Calls Try.prog f (args.map (AV.conc E)).toArray W fun e w' => e = .returned (.bool true) ∧ Below W.heap.size W w' := by
  refine (h E W hr ha).mono ?_
  rintro e w' ⟨r, H', E', rfl, st, _, _, hQ⟩
  rw [hq r H' hQ]
  exact ⟨rfl, st.os, st.tape, st.output, st.size, fun b hb => st.frame b hb (hno b)⟩

/-- A row that came in. -/
def RowIn (W : World) (k : Nat) (a : Option Addr) (len cap : Nat) (g : Nat → List Value) : Prop :=
  (a = none ∧ len = 0 ∧ cap = 0) ∨ ∃ b o, a = some ⟨b, o, none⟩ ∧ len ≤ cap ∧ b < W.heap.size ∧ ∀ i, i < len → ∀ j, j < k → W.cell? ⟨b, o + i * k + j, none⟩ = (g i)[j]?

theorem ro_rep {W : World} {k : Nat} {a : Option Addr} {len cap : Nat} {g : Nat → List Value} (hk : 0 < k) (h : RowIn W k a len cap g) (hl : ∀ i, (g i).length = k) (ho : ∀ i, ∀ v ∈ g i, v.oneCell' = true) :
    ∃ E : Env, HRep E [.ro k len g] W ∧ (SV.sl 0 k 0 len 0).conc E = .slice a len cap ∧ (SV.sl 0 k 0 len 0).ok E ∧ ∀ b, ¬ Im E [.ro k len g] b := by
  have noim : ∀ (E : Env) (b : Nat), ¬ Im E [.ro k len g] b := by
    rintro E b ⟨l, B, hl, ho, _⟩
    cases l with
    | zero => simp at hl; subst hl; cases ho
    | succ l => simp at hl
  have mk : ∀ E : Env, RoR E W 0 k len g → HRep E [.ro k len g] W := by
    intro E hR
    refine ⟨fun l B hl => ?_, fun l B hl => ?_, fun l l' B B' hl hl' ho => ?_, fun l k n g _ _ hi => noim E _ hi⟩
    · cases l with
      | zero => simp at hl; subst hl; exact hR
      | succ l => simp at hl
    · cases l with
      | zero => simp at hl; subst hl; trivial
      | succ l => simp at hl
    · cases l with
      | zero => simp at hl; subst hl; cases ho
      | succ l => simp at hl
  rcases h with ⟨rfl, rfl, rfl⟩ | ⟨b, o, rfl, h1, h2, h3⟩
  · refine ⟨⟨fun _ => 0, fun _ => 0, fun _ => 0, fun _ => true⟩, mk _ ?_, rfl, ⟨fun _ => rfl, (fun h => by cases h)⟩, noim _⟩
    exact ⟨hk, fun _ => rfl, (fun h => by cases h), (fun h => by cases h), (fun i hi => by omega), (fun i hi => by omega)⟩
  · refine ⟨⟨fun _ => b, fun _ => o, fun _ => cap, fun _ => false⟩, mk _ ?_, ?_, ⟨(fun h => by cases h), (fun _ => by simpa using h1)⟩, noim _⟩
    · exact ⟨hk, (fun h => by cases h), fun _ => h1, fun _ => ⟨h2, h3⟩, fun i _ => hl i, fun i _ => ho i⟩
    · simp only [SV.conc, Nat.sub_zero]
      by_cases hc : 0 = cap
      · rw [if_pos hc]; simp
      · rw [if_neg hc]; simp

section
variable {H : Type} {enc : TypeId × Value → H} {P : Program} {w : World} {base : Nat} {spare : Nat → Bool} {held : Bool}

/-- (The guide's page on structs.) A slice of structs of one-cell fields, opened. -/
theorem open_slice_fields {t e : TypeId} {fs : Array Field} {fuel : Nat} {cs : List Value} {x : DataW H × List MemPlace} (ht : P.underlying t = some (.slice e)) (he : P.underlying e = some (.struct fs))
    (hone : oneCellFields P fs = true) (hC : P.cellsOf e = fs.size) (h : DataW.trod enc P w base spare held fuel t cs = some x) :
    cs = [.slice none 0 0] ∨
    ∃ (a : Addr) (len cap : Nat), cs = [.slice (some a) len cap] ∧ len ≤ cap ∧
      ∀ i, i < len → ∀ (j : Nat) (f : Field), fs[j]? = some f → ∃ (v : Value) (n : Nat) (y : DataW H × List MemPlace), w.cell? (a.add (i * fs.size + j)) = some v ∧ DataW.trod enc P w base spare held n f.type [v] = some y := by
  rcases open_slice ht h with h0 | ⟨a, len, cap, m, n, D, Pl, hcs, hb, hl, hm, hmm, hx, hi⟩
  · exact .inl h0.1
  · refine .inr ⟨a, len, cap, hcs, hl, fun i him => ?_⟩
    have him : i < m := by rw [hmm]; split <;> omega
    obtain ⟨cs', hc, ht'⟩ := hi i him
    rw [hC] at hc
    obtain ⟨ys, n', hn', hy, hlen, hyl, hf⟩ := DataW.trod_struct he ht'
    obtain ⟨_, hcl, hat⟩ := World.cells?_some hc
    refine fun j f hj => ?_
    obtain ⟨ho, hk⟩ := hone_of hone j f hj
    have hjl : j < fs.size := (Array.getElem?_eq_some_iff.1 hj).1
    have hcell := hat j hjl
    have hv : cs'[j]? = some (cs'[j]'(by omega)) := List.getElem?_eq_getElem (by omega)
    have h1 := hf j f hj
    rw [ho, hk] at h1
    have hone' : (cs'.drop j).take 1 = [cs'[j]'(by omega)] := by
      rw [List.drop_eq_getElem_cons (by omega)]
      rfl
    rw [hone'] at h1
    have hys : ys[j]? = some (ys[j]'(by omega)) := List.getElem?_eq_getElem (by omega)
    refine ⟨_, _, _, ?_, h1.trans hys⟩
    rw [← Go.Deep.add_add, hcell, hv]

end

/-- The number in a cell. -/
def intAt (W : World) (a : Addr) : Int := match W.cell? a with | some (.int _ n) => n | _ => 0

theorem wf_i64 {n : Int} (h : (Lit.int .i64 n).wf = true) : I64 n := by
  simp only [Lit.wf, Bool.and_eq_true, decide_eq_true_eq] at h
  have e1 : IntKind.i64.min = -9223372036854775808 := by kernel_rfl
  have e2 : IntKind.i64.max = 9223372036854775807 := by kernel_rfl
  rw [e1, e2] at h
  unfold I64
  omega

theorem wf_u64 {n : Int} (h : (Lit.int .u64 n).wf = true) : 0 ≤ n ∧ n ≤ 18446744073709551615 := by
  simp only [Lit.wf, Bool.and_eq_true, decide_eq_true_eq] at h
  have e1 : IntKind.u64.min = 0 := by kernel_rfl
  have e2 : IntKind.u64.max = 18446744073709551615 := by kernel_rfl
  rw [e1, e2] at h
  omega

theorem addr_add (b o n : Nat) : (⟨b, o, none⟩ : Addr).add n = ⟨b, o + n, none⟩ := by
  unfold Addr.add
  split
  · rename_i h; subst h; rfl
  · rfl

/-- An address of a slice is a plain one, into memory. -/
theorem okWide_addr {P : Program} {w : World} {r : Reach} {b0 : Nat} {t e : TypeId} {a : Addr} {len cap : Nat} (ht : P.underlying t = some (.slice e)) (h : Value.okWide P w r b0 t (.slice (some a) len cap)) : a.spot = none ∧ a.block < w.heap.size := by
  simp only [Value.okWide, ht, Cell.okWide, Cell.ok, World.has] at h
  obtain ⟨_, _, _, h1, row, cells, h2, _⟩ := h
  refine ⟨h1, ?_⟩
  unfold World.shape? at h2
  cases hg : w.heap[a.block]? with
  | none => rw [hg] at h2; cases h2
  | some o => exact (Array.getElem?_eq_some_iff.1 hg).1

end Go.Proofs.Ythckkoledhjmeaa.Ev
