/-
  The abstract evaluator: a state told in another way: slots that nobody reads, other numbers for blocks, nil slices; loops.
-/
import Derived.Test.YthckkoledhjmeaaEvP
namespace Go.Proofs.Ythckkoledhjmeaa.Ev
open Go

/-- Slots that nobody reads. -/
def junk (vs : Nat → Value) : List Nat → List AV → List AV
  | [], fr => fr
  | i :: is, fr => junk vs is (fr.set i (.d (vs i)))

theorem FRep.junk1 {E : Env} {n : Nat} {fr : List AV} {a : Act} (h : FRep E n fr a) (i : Nat) : FRep E n (fr.set i (.d ((fr.getD i undefA).conc E))) a := by
  refine ⟨?_, fun x hx => ?_, fun x hx => ?_, h.defers⟩
  · rw [h.tmps, List.map_set]
    congr 1
    by_cases hi : i < fr.length
    · apply List.ext_getElem?
      intro j
      rw [List.getElem?_set]
      by_cases hj : i = j
      · subst hj
        simp [hi, AV.conc, EV.conc, SV.conc]
      · simp [hj]
    · rw [List.set_eq_of_length_le (by simp; omega)]
  · rcases List.mem_or_eq_of_mem_set hx with hx | rfl
    · exact h.sc x hx
    · exact Nat.zero_le _
  · rcases List.mem_or_eq_of_mem_set hx with hx | rfl
    · exact h.ok x hx
    · exact ok_s.2 trivial

theorem FRep.junk {E : Env} {n : Nat} {a : Act} : ∀ (is : List Nat) {fr : List AV}, FRep E n fr a → is.Nodup → ∃ vs, FRep E n (Ev.junk vs is fr) a
  | [], fr, h, _ => ⟨fun _ => undef, h⟩
  | i :: is, fr, h, hn => by
    obtain ⟨vs, hv⟩ := FRep.junk is (h.junk1 i) (List.nodup_cons.1 hn).2
    refine ⟨fun j => if j = i then (fr.getD i undefA).conc E else vs j, ?_⟩
    have : ∀ (is : List Nat) (fr' : List AV), i ∉ is → Ev.junk (fun j => if j = i then (fr.getD i undefA).conc E else vs j) is fr' = Ev.junk vs is fr' := by
      intro is
      induction is with
      | nil => intro fr' _; rfl
      | cons j js ih =>
        intro fr' hi
        simp only [List.mem_cons, not_or] at hi
        simp only [Ev.junk, if_neg (Ne.symm hi.1)]
        exact ih _ hi.2
    simp only [Ev.junk, if_true]
    rw [this _ _ (List.nodup_cons.1 hn).1]
    exact hv

/-! ### Other numbers for blocks -/

/-- Where a number stands. -/
def posOf (l : Nat) : List (Option Nat) → Option Nat
  | [] => none
  | none :: ms => (posOf l ms).map (· + 1)
  | some m :: ms => match Nat.beq l m with
    | true => some 0
    | false => (posOf l ms).map (· + 1)

theorem posOf_get : ∀ {ms : List (Option Nat)} {l p : Nat}, posOf l ms = some p → ms[p]? = some (some l)
  | [], l, p, h => by cases h
  | none :: ms, l, p, h => by
    unfold posOf at h
    cases hp : posOf l ms with
    | none => rw [hp] at h; cases h
    | some q => rw [hp] at h; cases h; simpa using posOf_get hp
  | some m :: ms, l, p, h => by
    unfold posOf at h
    split at h
    · rename_i hb; cases h; rw [Nat.eq_of_beq_eq_true hb]; rfl
    · cases hp : posOf l ms with
      | none => rw [hp] at h; cases h
      | some q => rw [hp] at h; cases h; simpa using posOf_get hp

def renCaps (ms : List (Option Nat)) : List (Nat × Nat) → Option (List (Nat × Nat))
  | [] => some []
  | (l, o) :: cs => match posOf l ms, renCaps ms cs with
    | some p, some cs' => some ((p, o) :: cs')
    | _, _ => none

def SV.ren (ms : List (Option Nat)) : SV → Option SV
  | .c v => some (.c v)
  | .d v => some (.d v)
  | .ptr l o => match posOf l ms with | some p => some (.ptr p o) | none => none
  | .rp l k i o => match posOf l ms with | some p => some (.rp p k i o) | none => none
  | .sl l k i n z => match posOf l ms with | some p => some (.sl p k i n z) | none => none
  | .mp l => match posOf l ms with | some p => some (.mp p) | none => none
  | .fn f caps => match renCaps ms caps with | some cs => some (.fn f cs) | none => none

def renCells (ms : List (Option Nat)) : List SV → Option (List SV)
  | [] => some []
  | x :: xs => match x.ren ms, renCells ms xs with
    | some y, some ys => some (y :: ys)
    | _, _ => none

def EV.ren (ms : List (Option Nat)) : EV → Option EV
  | .s x => match x.ren ms with | some y => some (.s y) | none => none
  | .agg cs => match renCells ms cs with | some ds => some (.agg ds) | none => none

def renEVs (ms : List (Option Nat)) : List EV → Option (List EV)
  | [] => some []
  | x :: xs => match x.ren ms, renEVs ms xs with
    | some y, some ys => some (y :: ys)
    | _, _ => none

def AV.ren (ms : List (Option Nat)) : AV → Option AV
  | .e x => match x.ren ms with | some y => some (.e y) | none => none
  | .tup vs => match renEVs ms vs with | some us => some (.tup us) | none => none

def renFr (ms : List (Option Nat)) : List AV → Option (List AV)
  | [] => some []
  | x :: xs => match x.ren ms, renFr ms xs with
    | some y, some ys => some (y :: ys)
    | _, _ => none

def AB.ren (ms : List (Option Nat)) : AB → Option AB
  | .cells ty cs => match renCells ms cs with | some ds => some (.cells ty ds) | none => none
  | B => some B

def renH (ms : List (Option Nat)) (H : Heap) : List (Option Nat) → Option Heap
  | [] => some []
  | none :: r => match renH ms H r with
    | some H' => some (.dead :: H')
    | none => none
  | some m :: r => match H[m]?, renH ms H r with
    | some B, some H' => match B.ren ms with
      | some B' => some (B' :: H')
      | none => none
    | _, _ => none

def Env.via (E : Env) (ms : List (Option Nat)) : Env where
  blk l := E.blk ((ms.getD l none).getD l)
  base l := E.base ((ms.getD l none).getD l)
  cap l := E.cap ((ms.getD l none).getD l)
  nil l := E.nil ((ms.getD l none).getD l)

section
variable {E : Env} {ms : List (Option Nat)}

theorem getD_of {l p : Nat} (h : posOf l ms = some p) : (ms.getD p none).getD p = l := by
  rw [List.getD_eq_getElem?_getD, posOf_get h]; rfl

theorem pos_lt {l p : Nat} (h : posOf l ms = some p) : p < ms.length := (List.getElem?_eq_some_iff.1 (posOf_get h)).1

theorem renCaps_ok : ∀ {cs ds : List (Nat × Nat)}, renCaps ms cs = some ds →
    ds.map (fun p => Value.pointer (some ⟨(E.via ms).blk p.1, p.2, none⟩)) = cs.map (fun p => Value.pointer (some ⟨E.blk p.1, p.2, none⟩)) ∧ ds.foldr (fun p n => max (p.1 + 1) n) 0 ≤ ms.length
  | [], ds, h => by cases h; exact ⟨rfl, Nat.zero_le _⟩
  | (l, o) :: cs, ds, h => by
    simp only [renCaps] at h
    split at h
    · rename_i p cs' hp hc
      cases h
      obtain ⟨h1, h2⟩ := renCaps_ok hc
      refine ⟨?_, ?_⟩
      · rw [List.map_cons, List.map_cons, h1]; simp only [Env.via, getD_of hp]
      · have := pos_lt hp; simp only [List.foldr_cons]; omega
    · cases h

theorem SV.ren_ok {x y : SV} (h : x.ren ms = some y) : y.conc (E.via ms) = x.conc E ∧ y.ref ≤ ms.length ∧ (x.ok E → y.ok (E.via ms)) := by
  cases x <;> simp only [SV.ren] at h
  case c v => cases h; exact ⟨rfl, Nat.zero_le _, fun _ => trivial⟩
  case d v => cases h; exact ⟨rfl, Nat.zero_le _, fun _ => trivial⟩
  case fn f caps =>
    split at h
    · rename_i cs hc
      cases h
      obtain ⟨h1, h2⟩ := renCaps_ok (E := E) hc
      exact ⟨by simp only [SV.conc, h1], h2, fun _ => trivial⟩
    · cases h
  all_goals
    split at h
    · rename_i p hp
      cases h
      refine ⟨by simp only [SV.conc, Env.via, getD_of hp], by have := pos_lt hp; simp only [SV.ref]; omega, fun h => ?_⟩
      simp only [SV.ok, Env.via, getD_of hp] at h ⊢
      try exact h
    · cases h

theorem renCells_ok : ∀ {cs ds : List SV}, renCells ms cs = some ds → ds.map (SV.conc (E.via ms)) = cs.map (SV.conc E) ∧ refs ds ≤ ms.length ∧ ((∀ x ∈ cs, x.ok E) → ∀ x ∈ ds, x.ok (E.via ms)) ∧ ds.length = cs.length
  | [], ds, h => by cases h; exact ⟨rfl, Nat.zero_le _, fun _ => by simp, rfl⟩
  | x :: xs, ds, h => by
    simp only [renCells] at h
    split at h
    · rename_i y ys hy hys
      cases h
      obtain ⟨h1, h2, h3⟩ := SV.ren_ok (E := E) hy
      obtain ⟨g1, g2, g3, g4⟩ := renCells_ok hys
      refine ⟨by rw [List.map_cons, List.map_cons, h1, g1], refs_le.2 ?_, fun h => ?_, by simp [g4]⟩
      · simp only [List.mem_cons, forall_eq_or_imp]
        exact ⟨h2, refs_le.1 g2⟩
      · simp only [List.mem_cons, forall_eq_or_imp] at h ⊢
        exact ⟨h3 h.1, g3 h.2⟩
    · cases h

theorem EV.ren_ok {x y : EV} (h : x.ren ms = some y) : y.conc (E.via ms) = x.conc E ∧ y.ref ≤ ms.length ∧ ((∀ z ∈ x.svs, z.ok E) → ∀ z ∈ y.svs, z.ok (E.via ms)) := by
  cases x with
  | s x =>
    simp only [EV.ren] at h
    split at h
    · rename_i y hy
      cases h
      obtain ⟨h1, h2, h3⟩ := SV.ren_ok (E := E) hy
      exact ⟨h1, h2, fun h => by simpa [EV.svs] using h3 (by simpa [EV.svs] using h)⟩
    · cases h
  | agg cs =>
    simp only [EV.ren] at h
    split at h
    · rename_i ds hd
      cases h
      obtain ⟨h1, h2, h3, _⟩ := renCells_ok (E := E) hd
      exact ⟨by simp only [EV.conc, h1], h2, h3⟩
    · cases h

theorem renEVs_ok : ∀ {cs ds : List EV}, renEVs ms cs = some ds → ds.map (EV.conc (E.via ms)) = cs.map (EV.conc E) ∧ ds.foldr (fun x n => max x.ref n) 0 ≤ ms.length ∧ ((∀ x ∈ cs.flatMap EV.svs, x.ok E) → ∀ x ∈ ds.flatMap EV.svs, x.ok (E.via ms))
  | [], ds, h => by cases h; exact ⟨rfl, Nat.zero_le _, fun _ => by simp⟩
  | x :: xs, ds, h => by
    simp only [renEVs] at h
    split at h
    · rename_i y ys hy hys
      cases h
      obtain ⟨h1, h2, h3⟩ := EV.ren_ok (E := E) hy
      obtain ⟨g1, g2, g3⟩ := renEVs_ok hys
      refine ⟨by rw [List.map_cons, List.map_cons, h1, g1], by simp only [List.foldr_cons]; omega, fun h => ?_⟩
      simp only [List.flatMap_cons, List.mem_append] at h ⊢
      intro z hz
      rcases hz with hz | hz
      · exact h3 (fun z hz => h z (.inl hz)) z hz
      · exact g3 (fun z hz => h z (.inr hz)) z hz
    · cases h

theorem AV.ren_ok {x y : AV} (h : x.ren ms = some y) : y.conc (E.via ms) = x.conc E ∧ y.ref ≤ ms.length ∧ (x.ok E → y.ok (E.via ms)) := by
  cases x with
  | e x =>
    simp only [AV.ren] at h
    split at h
    · rename_i y hy; cases h; exact EV.ren_ok hy
    · cases h
  | tup vs =>
    simp only [AV.ren] at h
    split at h
    · rename_i us hu
      cases h
      obtain ⟨h1, h2, h3⟩ := renEVs_ok (E := E) hu
      exact ⟨by simp only [AV.conc, h1], h2, h3⟩
    · cases h

theorem renFr_ok : ∀ {fr fr' : List AV}, renFr ms fr = some fr' → fr'.map (AV.conc (E.via ms)) = fr.map (AV.conc E) ∧ (∀ x ∈ fr', x.ref ≤ ms.length) ∧ ((∀ x ∈ fr, x.ok E) → ∀ x ∈ fr', x.ok (E.via ms))
  | [], fr', h => by cases h; exact ⟨rfl, by simp, fun _ => by simp⟩
  | x :: xs, fr', h => by
    simp only [renFr] at h
    split at h
    · rename_i y ys hy hys
      cases h
      obtain ⟨h1, h2, h3⟩ := AV.ren_ok (E := E) hy
      obtain ⟨g1, g2, g3⟩ := renFr_ok hys
      refine ⟨by rw [List.map_cons, List.map_cons, h1, g1], by simp only [List.mem_cons, forall_eq_or_imp]; exact ⟨h2, g2⟩, fun h => ?_⟩
      simp only [List.mem_cons, forall_eq_or_imp] at h ⊢
      exact ⟨h3 h.1, g3 h.2⟩
    · cases h

theorem renH_get {H : Heap} : ∀ {r : List (Option Nat)} {H' : Heap}, renH ms H r = some H' → H'.length = r.length ∧ ∀ (p : Nat) (B' : AB), H'[p]? = some B' → (r[p]? = some none ∧ B' = .dead) ∨ ∃ m B, r[p]? = some (some m) ∧ H[m]? = some B ∧ B.ren ms = some B'
  | [], H', h => by cases h; exact ⟨rfl, fun p B' h => by simp at h⟩
  | none :: r, H', h => by
    simp only [renH] at h
    split at h
    · rename_i H1 hH
      cases h
      obtain ⟨h1, h2⟩ := renH_get hH
      refine ⟨by simp [h1], fun p C hp => ?_⟩
      cases p with
      | zero => simp at hp; subst hp; exact .inl ⟨rfl, rfl⟩
      | succ p => simp at hp; simpa using h2 p C hp
    · cases h
  | some m :: r, H', h => by
    simp only [renH] at h
    split at h
    · rename_i B H1 hB hH
      split at h
      · rename_i B' hB'
        cases h
        obtain ⟨h1, h2⟩ := renH_get hH
        refine ⟨by simp [h1], fun p C hp => ?_⟩
        cases p with
        | zero => simp at hp; subst hp; exact .inr ⟨m, B, rfl, hB, hB'⟩
        | succ p => simp at hp; simpa using h2 p C hp
      · cases h
    · cases h

theorem BRep.ren {w : World} {l p : Nat} {B B' : AB} (hr : B.ren ms = some B') (hp : (ms.getD p none).getD p = l) (h : BRep E w l B) : BRep (E.via ms) w p B' := by
  subst hp
  cases B <;> simp only [AB.ren] at hr
  case cells ty cs =>
    split at hr
    · rename_i ds hd
      cases hr
      have := (renCells_ok (E := E) hd).1
      simp only [BRep, this]
      exact h
    · cases hr
  case row ty k n g => cases hr; exact RowR.mk h.pos h.nil h.cap h.mem h.len h.one
  case lit ty k ch =>
    cases hr
    have h : RowR E w ((ms.getD p none).getD p) ty k ch.length (fun j => ch.getD j []) := h
    exact RowR.mk h.pos h.nil h.cap h.mem h.len h.one
  case ro k n g => cases hr; exact RoR.mk h.pos h.nil h.cap h.mem h.len h.one
  case pm es => cases hr; exact h
  case dead => cases hr; trivial

theorem BOk.ren {n : Nat} {B B' : AB} (hr : B.ren ms = some B') (h : BOk E n B) : BOk (E.via ms) ms.length B' := by
  cases B <;> simp only [AB.ren] at hr
  case cells ty cs =>
    split at hr
    · rename_i ds hd
      cases hr
      obtain ⟨_, h2, h3, _⟩ := renCells_ok (E := E) hd
      exact ⟨h2, h3 h.2⟩
    · cases hr
  all_goals
    cases hr
    trivial

theorem AB.ren_own {B B' : AB} (hr : B.ren ms = some B') (b : Bool) : B'.own b = B.own b ∧ ((∃ k n g, B' = .ro k n g) → B = B') := by
  cases B <;> simp only [AB.ren] at hr
  case cells ty cs =>
    split at hr
    · cases hr; exact ⟨rfl, fun ⟨k, n, g, h⟩ => by cases h⟩
    · cases hr
  all_goals
    cases hr
    exact ⟨rfl, fun _ => rfl⟩

end

/-- The first numbers stand, or are gone. -/
def prefB : Nat → List (Option Nat) → Nat → Bool
  | 0, _, _ => true
  | n + 1, some m :: ms, i => Nat.beq m i && prefB n ms (i + 1)
  | n + 1, none :: ms, i => prefB n ms (i + 1)
  | _ + 1, [], _ => false

theorem prefB_ok : ∀ {n i : Nat} {ms : List (Option Nat)}, prefB n ms i = true → n ≤ ms.length ∧ ∀ l, l < n → ∀ z, (ms.getD l none).getD z = i + l ∨ ms.getD l none = none
  | 0, i, ms, _ => ⟨Nat.zero_le _, fun l hl => by omega⟩
  | n + 1, i, [], h => by cases h
  | n + 1, i, none :: ms, h => by
    simp only [prefB] at h
    obtain ⟨h1, h2⟩ := prefB_ok h
    refine ⟨by simpa using h1, fun l hl z => ?_⟩
    cases l with
    | zero => exact .inr rfl
    | succ l =>
      have := h2 l (by omega) z
      simp only [List.getD_cons_succ]
      rcases this with this | this
      · exact .inl (by omega)
      · exact .inr this
  | n + 1, i, some m :: ms, h => by
    simp only [prefB, Bool.and_eq_true] at h
    obtain ⟨h1, h2⟩ := prefB_ok h.2
    refine ⟨by simpa using h1, fun l hl z => ?_⟩
    cases l with
    | zero => exact .inl (by simp [Nat.eq_of_beq_eq_true h.1])
    | succ l =>
      have := h2 l (by omega) z
      simp only [List.getD_cons_succ]
      rcases this with this | this
      · exact .inl (by omega)
      · exact .inr this

def memB (m : Nat) : List (Option Nat) → Bool
  | [] => false
  | none :: xs => memB m xs
  | some x :: xs => Nat.beq m x || memB m xs

def nodupB : List (Option Nat) → Bool
  | [] => true
  | none :: ms => nodupB ms
  | some m :: ms => !memB m ms && nodupB ms

theorem memB_of {m : Nat} : ∀ {ms : List (Option Nat)} {p : Nat}, ms[p]? = some (some m) → memB m ms = true
  | [], p, h => by simp at h
  | x :: xs, 0, h => by simp at h; subst h; simp [memB]
  | none :: xs, p + 1, h => by simp at h; exact memB_of (ms := xs) h
  | some x :: xs, p + 1, h => by simp at h; simp [memB, memB_of (ms := xs) h]

theorem nodupB_ok : ∀ {ms : List (Option Nat)}, nodupB ms = true → ∀ {p q m : Nat}, ms[p]? = some (some m) → ms[q]? = some (some m) → p = q
  | [], _, p, q, m, h, _ => by simp at h
  | none :: ms, h, p, q, m, hp, hq => by
    cases p with
    | zero => simp at hp
    | succ p => cases q with
      | zero => simp at hq
      | succ q => simp at hp hq; rw [nodupB_ok (ms := ms) h hp hq]
  | some x :: ms, h, p, q, m, hp, hq => by
    simp only [nodupB, Bool.and_eq_true, Bool.not_eq_true'] at h
    cases p with
    | zero => cases q with
      | zero => rfl
      | succ q => simp at hp hq; subst hp; rw [memB_of hq] at h; exact absurd h.1 (by simp)
    | succ p => cases q with
      | zero => simp at hp hq; subst hq; rw [memB_of hp] at h; exact absurd h.1 (by simp)
      | succ q => simp at hp hq; rw [nodupB_ok (ms := ms) h.2 hp hq]

theorem step_ren {n0 : Nat} {E : Env} {H H' : Heap} {w : World} {ms : List (Option Nat)} (h : HRep E H w) (hr : renH ms H ms = some H') (hp : prefB n0 ms 0 = true) (hd : nodupB ms = true) : Step n0 E H w (E.via ms) H' w ∧ H'.length = ms.length := by
  obtain ⟨h1, h2⟩ := renH_get hr
  obtain ⟨p1, p2⟩ := prefB_ok hp
  have get : ∀ {p : Nat} {B' : AB}, H'[p]? = some B' → B' = .dead ∨ ∃ m B, ms[p]? = some (some m) ∧ H[m]? = some B ∧ B.ren ms = some B' ∧ (ms.getD p none).getD p = m := by
    intro p B' hb
    rcases h2 p B' hb with ⟨_, g⟩ | ⟨m, B, g1, g2, g3⟩
    · exact .inl g
    · exact .inr ⟨m, B, g1, g2, g3, by rw [List.getD_eq_getElem?_getD, g1]; rfl⟩
  have him : ∀ b, Im (E.via ms) H' b → Im E H b := by
    rintro b ⟨p, B', hb, ho, rfl⟩
    rcases get hb with rfl | ⟨m, B, g0, g1, g2, e⟩
    · cases ho
    · refine ⟨m, B, g1, ?_, by simp only [Env.via, e]⟩
      rw [← (AB.ren_own g2 _).1]
      simp only [Env.via, e] at ho
      exact ho
  have ag : Env.Agree n0 E (E.via ms) := by
    have e : ∀ l, l < n0 → (ms.getD l none).getD l = l := fun l hl => by
      rcases p2 l hl l with h | h
      · omega
      · rw [h]; rfl
    exact ⟨fun l hl => by simp only [Env.via, e l hl], fun l hl => by simp only [Env.via, e l hl], fun l hl => by simp only [Env.via, e l hl], fun l hl => by simp only [Env.via, e l hl]⟩
  refine ⟨⟨ag, by omega, ⟨fun p B' hb => ?_, fun p B' hb => ?_, fun p p' B B' hb hb' ho ho' he => ?_, fun p k n g hb hn hi => ?_⟩, rfl, rfl, rfl, Nat.le_refl _, fun _ _ _ => rfl, fun b _ => him b⟩, h1⟩
  · rcases get hb with rfl | ⟨m, B, g0, g1, g2, e⟩
    · trivial
    · exact BRep.ren g2 e (h.rep _ B g1)
  · rcases get hb with rfl | ⟨m, B, g0, g1, g2, e⟩
    · trivial
    · rw [h1]; exact BOk.ren g2 (h.ok _ B g1)
  · rcases get hb with rfl | ⟨m, C, g0, g1, g2, e⟩
    · cases ho
    · rcases get hb' with rfl | ⟨m', C', k0, k1, k2, e'⟩
      · cases ho'
      · simp only [Env.via, e, e'] at ho ho' he
        have := h.inj _ _ C C' g1 k1 (by rw [← (AB.ren_own g2 _).1]; exact ho) (by rw [← (AB.ren_own k2 _).1]; exact ho') he
        subst this
        exact nodupB_ok hd g0 k0
  · rcases get hb with hb | ⟨m, C, g0, g1, g2, e⟩
    · cases hb
    · have := (AB.ren_own g2 true).2 ⟨k, n, g, rfl⟩
      subst this
      simp only [Env.via, e] at hn hi
      exact h.ro _ k n g g1 hn (him _ hi)

/-! ### Values and a heap, told in another way -/

/-- Whatever the memory is, these values and this heap can be told as some of those. -/
def Re (n0 : Nat) (fr : List AV) (H : Heap) (R : List AV → Heap → Prop) : Prop :=
  ∀ (E : Env) (w : World), HRep E H w → (∀ x ∈ fr, x.ref ≤ H.length ∧ x.ok E) → n0 ≤ H.length →
    ∃ (fr2 : List AV) (H2 : Heap) (E2 : Env), Step n0 E H w E2 H2 w ∧ fr2.map (AV.conc E2) = fr.map (AV.conc E) ∧ (∀ x ∈ fr2, x.ref ≤ H2.length ∧ x.ok E2) ∧ R fr2 H2

theorem Re.refl {n0 : Nat} {fr : List AV} {H : Heap} {R : List AV → Heap → Prop} (h : R fr H) : Re n0 fr H R :=
  fun E _ hr hf hn => ⟨fr, H, E, .refl hr hn, rfl, hf, h⟩

theorem Re.trans {n0 : Nat} {fr : List AV} {H : Heap} {R R' : List AV → Heap → Prop} (h : Re n0 fr H R) (hr : ∀ fr2 H2, R fr2 H2 → Re n0 fr2 H2 R') : Re n0 fr H R' := by
  intro E w h1 h2 h3
  obtain ⟨fr2, H2, E2, g1, g2, g3, g4⟩ := h E w h1 h2 h3
  obtain ⟨fr3, H3, E3, k1, k2, k3, k4⟩ := hr fr2 H2 g4 E2 w g1.rep g3 g1.len
  exact ⟨fr3, H3, E3, g1.trans k1 (Nat.le_refl _), k2.trans g2, k3, k4⟩

theorem Re.mono {n0 : Nat} {fr : List AV} {H : Heap} {R R' : List AV → Heap → Prop} (h : Re n0 fr H R) (hr : ∀ fr2 H2, R fr2 H2 → R' fr2 H2) : Re n0 fr H R' :=
  h.trans fun _ _ h2 => .refl (hr _ _ h2)

/-- Blocks by other numbers: where each comes from; or gone. -/
theorem Re.ren {n0 : Nat} {fr fr2 : List AV} {H H2 : Heap} {R : List AV → Heap → Prop} (ms : List (Option Nat)) (hf : renFr ms fr = some fr2) (hH : renH ms H ms = some H2) (hp : (prefB n0 ms 0 && nodupB ms) = true) (h : Re n0 fr2 H2 R) : Re n0 fr H R := by
  intro E w h1 h2 h3
  simp only [Bool.and_eq_true] at hp
  obtain ⟨hst, hlen⟩ := step_ren h1 hH hp.1 hp.2
  obtain ⟨f1, f2, f3⟩ := renFr_ok (E := E) hf
  obtain ⟨fr3, H3, E3, k1, k2, k3, k4⟩ := h (E.via ms) w hst.rep (fun x hx => ⟨by rw [hlen]; exact f2 x hx, f3 (fun x hx => (h2 x hx).2) x hx⟩) hst.len
  exact ⟨fr3, H3, E3, hst.trans k1 (Nat.le_refl _), k2.trans f1, k3, k4⟩

theorem HRep.cells_ok {E : Env} {H : Heap} {w : World} (h : HRep E H w) {l ty : Nat} {cs : List SV} (hl : H[l]? = some (.cells ty cs)) : refs cs ≤ H.length ∧ ∀ x ∈ cs, x.ok E := h.ok l _ hl

/-- A nil slice that is known, among the values, becomes a row of none. -/
theorem Re.nil {n0 : Nat} {fr : List AV} {H : Heap} {R : List AV → Heap → Prop} (i ty k : Nat) (g : Nat → List Value) (hk : 0 < k) (hi : fr[i]? = some (.c (.slice none 0 0))) (h : Re n0 (fr.set i (.e (.s (.sl H.length k 0 0 0)))) (H ++ [.row ty k 0 g]) R) : Re n0 fr H R := by
  intro E w h1 h2 h3
  have hst := push_nil h1 (t := ty) (k := k) (g := g) hk
  have hlt : i < fr.length := (List.getElem?_eq_some_iff.1 hi).1
  obtain ⟨fr3, H3, E3, k1, k2, k3, k4⟩ := h _ w hst.rep (fun x hx => by
    rcases List.mem_or_eq_of_mem_set hx with hx | rfl
    · exact ⟨Nat.le_trans (h2 x hx).1 (by simp), AV.ok_agree hst.agree (h2 x hx).1 (h2 x hx).2⟩
    · exact ⟨by simp [AV.ref, EV.ref, SV.ref], ok_s.2 ⟨fun _ => rfl, fun hh => by simp at hh⟩⟩) (by simp; omega)
  refine ⟨fr3, H3, E3, (hst.mono h3).trans k1 (Nat.le_refl _), ?_, k3, k4⟩
  rw [k2, List.map_set]
  apply List.ext_getElem?
  intro j
  rw [List.getElem?_set, List.getElem?_map, List.getElem?_map]
  by_cases hj : i = j
  · subst hj
    rw [if_pos rfl, if_pos (by simpa using hlt), hi]
    simp [AV.conc, EV.conc, SV.conc]
  · rw [if_neg hj]
    cases hx : fr[j]? with
    | none => rfl
    | some x => simp only [Option.map_some]; rw [AV.conc_agree hst.agree (h2 x (List.mem_of_getElem? hx)).1]

/-- A nil slice that is known, among a variable's cells, becomes a row of none. -/
theorem Re.nilCell {n0 : Nat} {fr : List AV} {H : Heap} {R : List AV → Heap → Prop} (l i ty k : Nat) {cty : Nat} {cs : List SV} (g : Nat → List Value) (hk : 0 < k) (hl : H[l]? = some (.cells cty cs)) (hi : cs[i]? = some (.c (.slice none 0 0)))
    (h : Re n0 fr (H.set l (.cells cty (cs.set i (.sl H.length k 0 0 0))) ++ [.row ty k 0 g]) R) : Re n0 fr H R := by
  intro E w h1 h2 h3
  have hst := push_nil h1 (t := ty) (k := k) (g := g) hk
  have hlt : l < H.length := lt_of_get hl
  have hl' : (H ++ [.row ty k 0 g])[l]? = some (.cells cty cs) := by rw [List.getElem?_append_left hlt]; exact hl
  have hrep := hst.rep.rep l _ hl'
  have hok := hst.rep.cells_ok hl'
  have hcs : (cs.set i (.sl H.length k 0 0 0)).map (SV.conc (E.push H.length 0 0 0 true)) = cs.map (SV.conc (E.push H.length 0 0 0 true)) := by
    rw [List.map_set]
    apply List.ext_getElem?
    intro j
    rw [List.getElem?_set]
    by_cases hj : i = j
    · subst hj
      have hlt2 : i < cs.length := (List.getElem?_eq_some_iff.1 hi).1
      have e2 := (List.getElem?_eq_some_iff.1 hi).2
      simp [hlt2, e2, SV.conc]
    · rw [if_neg hj]
  have hset := step_set (w' := w) (B := .cells cty (cs.set i (.sl H.length k 0 0 0))) hst.rep hl' rfl (by simp only [BRep] at hrep ⊢; rw [hcs]; exact hrep) (by
    refine ⟨refs_le.2 fun x hx => ?_, fun x hx => ?_⟩
    · rcases List.mem_or_eq_of_mem_set hx with hx | rfl
      · exact refs_le.1 hok.1 x hx
      · simp [SV.ref]
    · rcases List.mem_or_eq_of_mem_set hx with hx | rfl
      · exact hok.2 x hx
      · exact ⟨fun _ => rfl, fun hh => by simp at hh⟩) (fun _ _ _ => by simp) (fun _ _ => rfl) rfl rfl rfl rfl
  have hst2 := hst.trans hset (by simp)
  rw [List.set_append_left _ _ hlt] at hst2
  obtain ⟨fr3, H3, E3, k1, k2, k3, k4⟩ := h _ w hst2.rep (fun x hx => ⟨Nat.le_trans (h2 x hx).1 (by simp), AV.ok_agree hst.agree (h2 x hx).1 (h2 x hx).2⟩) (by simp; omega)
  refine ⟨fr3, H3, E3, (hst2.mono h3).trans k1 (Nat.le_refl _), ?_, k3, k4⟩
  rw [k2]
  exact List.map_congr_left fun x hx => AV.conc_agree hst.agree (h2 x hx).1

/-- A row is told by another function that says the same of its elements. -/
theorem Re.row {n0 : Nat} {fr : List AV} {H : Heap} {R : List AV → Heap → Prop} (l : Nat) {ty k n : Nat} {g : Nat → List Value} (g' : Nat → List Value) (hl : H[l]? = some (.row ty k n g)) (hg : ∀ j, j < n → g j = g' j)
    (h : Re n0 fr (H.set l (.row ty k n g')) R) : Re n0 fr H R := by
  intro E w h1 h2 h3
  have hlt : l < H.length := lt_of_get hl
  have hrow : RowR E w l ty k n g := h1.rep l _ hl
  have hrow' : RowR E w l ty k n g' := by
    refine ⟨hrow.pos, hrow.nil, hrow.cap, fun hn => ?_, fun i hi => by rw [← hg i hi]; exact hrow.len i hi, fun i hi => by rw [← hg i hi]; exact hrow.one i hi⟩
    obtain ⟨vs, g1, g2, g3⟩ := hrow.mem hn
    exact ⟨vs, g1, g2, fun i hi j hj => by rw [← hg i hi]; exact g3 i hi j hj⟩
  have get : ∀ {l' : Nat} {C : AB}, (H.set l (.row ty k n g'))[l']? = some C → (l' = l ∧ C = .row ty k n g') ∨ H[l']? = some C := by
    intro l' C hc
    rcases get_set hc with ⟨_, h8⟩ | ⟨h7, h8, _⟩
    · exact .inr h8
    · exact .inl ⟨h7, h8.symm⟩
  have get2 : ∀ {l' : Nat} {C : AB}, (H.set l (.row ty k n g'))[l']? = some C → ∃ C0, H[l']? = some C0 ∧ (∀ b, C0.own b = C.own b) ∧ (∀ k n g, C = .ro k n g → C0 = C) := by
    intro l' C hc
    rcases get hc with ⟨rfl, rfl⟩ | h8
    · exact ⟨_, hl, fun _ => rfl, fun _ _ _ h => by cases h⟩
    · exact ⟨_, h8, fun _ => rfl, fun _ _ _ _ => rfl⟩
  have him : ∀ b, Im E (H.set l (.row ty k n g')) b → Im E H b := by
    rintro b ⟨l', C, hc, ho, rfl⟩
    obtain ⟨C0, g1, g2, _⟩ := get2 hc
    exact ⟨l', C0, g1, by rw [g2]; exact ho, rfl⟩
  have hst : Step n0 E H w E (H.set l (.row ty k n g')) w := by
    refine ⟨.refl _ _, by simpa using h3, ⟨fun l' C hc => ?_, fun l' C hc => ?_, fun l1 l2 C1 C2 hc1 hc2 ho1 ho2 he => ?_, fun l' k' n' g'' hc hn hi => ?_⟩, rfl, rfl, rfl, Nat.le_refl _, fun _ _ _ => rfl, fun b _ => him b⟩
    · rcases get hc with ⟨rfl, rfl⟩ | h8
      · exact hrow'
      · exact h1.rep l' C h8
    · rw [List.length_set]
      rcases get hc with ⟨rfl, rfl⟩ | h8
      · trivial
      · exact h1.ok l' C h8
    · obtain ⟨D1, g1, g2, _⟩ := get2 hc1
      obtain ⟨D2, k1, k2, _⟩ := get2 hc2
      exact h1.inj l1 l2 D1 D2 g1 k1 (by rw [g2]; exact ho1) (by rw [k2]; exact ho2) he
    · obtain ⟨D, g1, _, g3⟩ := get2 hc
      have := g3 _ _ _ rfl
      subst this
      exact h1.ro l' k' n' g'' g1 hn (him _ hi)
  obtain ⟨fr3, H3, E3, k1, k2, k3, k4⟩ := h E w hst.rep (fun x hx => by rw [List.length_set]; exact h2 x hx) hst.len
  exact ⟨fr3, H3, E3, hst.trans k1 (Nat.le_refl _), k2, k3, k4⟩

end Go.Proofs.Ythckkoledhjmeaa.Ev
