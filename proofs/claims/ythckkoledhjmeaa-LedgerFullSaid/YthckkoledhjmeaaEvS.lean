/-
  The abstract evaluator: what is shown of a function in a heap of its own holds in whatever heap.
-/
import Derived.Test.YthckkoledhjmeaaEvR
namespace Go.Proofs.Ythckkoledhjmeaa.Ev
open Go

/-! ### Numbers turned by a function -/

def SV.by (f : Nat → Nat) : SV → SV
  | .c v => .c v
  | .d v => .d v
  | .ptr l o => .ptr (f l) o
  | .rp l k i o => .rp (f l) k i o
  | .sl l k i n z => .sl (f l) k i n z
  | .mp l => .mp (f l)
  | .fn g caps => .fn g (caps.map fun p => (f p.1, p.2))

def EV.by (f : Nat → Nat) : EV → EV
  | .s x => .s (x.by f)
  | .agg cs => .agg (cs.map (SV.by f))

def AV.by (f : Nat → Nat) : AV → AV
  | .e x => .e (x.by f)
  | .tup vs => .tup (vs.map (EV.by f))

def AB.by (f : Nat → Nat) : AB → AB
  | .cells ty cs => .cells ty (cs.map (SV.by f))
  | B => B

/-- The same memory by other numbers. -/
structure Same (f : Nat → Nat) (n n' : Nat) (E E' : Env) : Prop where
  lt : ∀ l, l < n → f l < n'
  blk : ∀ l, l < n → E'.blk (f l) = E.blk l
  base : ∀ l, l < n → E'.base (f l) = E.base l
  cap : ∀ l, l < n → E'.cap (f l) = E.cap l
  nil : ∀ l, l < n → E'.nil (f l) = E.nil l

section
variable {f : Nat → Nat} {n n' : Nat} {E E' : Env}

theorem caps_by (h : Same f n n' E E') : ∀ {caps : List (Nat × Nat)}, caps.foldr (fun p n => max (p.1 + 1) n) 0 ≤ n → (caps.map fun p => (f p.1, p.2)).foldr (fun p n => max (p.1 + 1) n) 0 ≤ n' ∧
    (caps.map fun p => (f p.1, p.2)).map (fun p => Value.pointer (some ⟨E'.blk p.1, p.2, none⟩)) = caps.map (fun p => Value.pointer (some ⟨E.blk p.1, p.2, none⟩))
  | [], _ => ⟨Nat.zero_le _, rfl⟩
  | p :: r, hn => by
    simp only [List.foldr_cons] at hn
    obtain ⟨h1, h2⟩ := caps_by h (caps := r) (by omega)
    have := h.lt p.1 (by omega)
    refine ⟨by simp only [List.map_cons, List.foldr_cons]; omega, ?_⟩
    simp only [List.map_cons] at h2 ⊢
    rw [h2, h.blk p.1 (by omega)]

theorem SV.by_ok (h : Same f n n' E E') {x : SV} (hx : x.ref ≤ n) : (x.by f).conc E' = x.conc E ∧ (x.by f).ref ≤ n' ∧ (x.ok E → (x.by f).ok E') := by
  cases x <;> simp only [SV.ref] at hx <;> simp only [SV.by]
  case c v => exact ⟨rfl, Nat.zero_le _, fun _ => trivial⟩
  case d v => exact ⟨rfl, Nat.zero_le _, fun _ => trivial⟩
  case fn g caps =>
    obtain ⟨h1, h2⟩ := caps_by h hx
    exact ⟨by simp only [SV.conc, h2], h1, fun _ => trivial⟩
  case ptr l o => exact ⟨by simp only [SV.conc, h.blk l hx], h.lt l hx, fun _ => trivial⟩
  case rp l k i o => exact ⟨by simp only [SV.conc, h.blk l hx, h.base l hx], h.lt l hx, fun _ => trivial⟩
  case sl l k i m z => exact ⟨by simp only [SV.conc, h.blk l hx, h.base l hx, h.cap l hx, h.nil l hx], h.lt l hx, fun ho => by simp only [SV.ok, h.nil l hx, h.cap l hx] at ho ⊢; exact ho⟩
  case mp l => exact ⟨by simp only [SV.conc, h.blk l hx], h.lt l hx, fun _ => trivial⟩

theorem cells_by (h : Same f n n' E E') : ∀ {cs : List SV}, refs cs ≤ n → (cs.map (SV.by f)).map (SV.conc E') = cs.map (SV.conc E) ∧ refs (cs.map (SV.by f)) ≤ n' ∧ ((∀ x ∈ cs, x.ok E) → ∀ x ∈ cs.map (SV.by f), x.ok E')
  | [], _ => ⟨rfl, Nat.zero_le _, fun _ => by simp⟩
  | x :: cs, hn => by
    rw [refs_le] at hn
    simp only [List.mem_cons, forall_eq_or_imp] at hn
    obtain ⟨h1, h2, h3⟩ := SV.by_ok h hn.1
    obtain ⟨g1, g2, g3⟩ := cells_by h (cs := cs) (refs_le.2 hn.2)
    refine ⟨by simp only [List.map_cons, h1] at g1 ⊢; rw [g1], refs_le.2 ?_, fun ho => ?_⟩
    · simp only [List.map_cons, List.mem_cons, forall_eq_or_imp]
      exact ⟨h2, refs_le.1 g2⟩
    · simp only [List.map_cons, List.mem_cons, forall_eq_or_imp] at ho ⊢
      exact ⟨h3 ho.1, g3 ho.2⟩

theorem EV.by_ok (h : Same f n n' E E') {x : EV} (hx : x.ref ≤ n) : (x.by f).conc E' = x.conc E ∧ (x.by f).ref ≤ n' ∧ ((∀ z ∈ x.svs, z.ok E) → ∀ z ∈ (x.by f).svs, z.ok E') := by
  cases x with
  | s x =>
    obtain ⟨h1, h2, h3⟩ := SV.by_ok h hx
    exact ⟨h1, h2, fun ho => by simpa [EV.svs, EV.by] using h3 (by simpa [EV.svs] using ho)⟩
  | agg cs =>
    obtain ⟨h1, h2, h3⟩ := cells_by h hx
    exact ⟨by simp only [EV.by, EV.conc, h1], h2, h3⟩

theorem evs_by (h : Same f n n' E E') : ∀ {vs : List EV}, vs.foldr (fun x n => max x.ref n) 0 ≤ n → (vs.map (EV.by f)).map (EV.conc E') = vs.map (EV.conc E) ∧ (vs.map (EV.by f)).foldr (fun x n => max x.ref n) 0 ≤ n' ∧
    ((∀ z ∈ vs.flatMap EV.svs, z.ok E) → ∀ z ∈ (vs.map (EV.by f)).flatMap EV.svs, z.ok E')
  | [], _ => ⟨rfl, Nat.zero_le _, fun _ => by simp⟩
  | x :: vs, hn => by
    simp only [List.foldr_cons] at hn
    obtain ⟨h1, h2, h3⟩ := EV.by_ok h (x := x) (by omega)
    obtain ⟨g1, g2, g3⟩ := evs_by h (vs := vs) (by omega)
    refine ⟨by simp only [List.map_cons, h1] at g1 ⊢; rw [g1], by simp only [List.map_cons, List.foldr_cons]; omega, fun ho => ?_⟩
    simp only [List.map_cons, List.flatMap_cons, List.mem_append] at ho ⊢
    intro z hz
    rcases hz with hz | hz
    · exact h3 (fun z hz => ho z (.inl hz)) z hz
    · exact g3 (fun z hz => ho z (.inr hz)) z hz

theorem AV.by_ok (h : Same f n n' E E') {x : AV} (hx : x.ref ≤ n) : (x.by f).conc E' = x.conc E ∧ (x.by f).ref ≤ n' ∧ (x.ok E → (x.by f).ok E') := by
  cases x with
  | e x => exact EV.by_ok h hx
  | tup vs =>
    obtain ⟨h1, h2, h3⟩ := evs_by h hx
    exact ⟨by simp only [AV.by, AV.conc, h1], h2, h3⟩

theorem BRep.by (h : Same f n n' E E') {w : World} {l : Nat} {B : AB} (hl : l < n) (hok : BOk E n B) (hB : BRep E w l B) : BRep E' w (f l) (B.by f) := by
  have h1 := h.blk l hl
  have h2 := h.base l hl
  have h3 := h.cap l hl
  have h4 := h.nil l hl
  cases B with
  | cells ty cs => simp only [AB.by, BRep] at hB ⊢; rw [(cells_by h hok.1).1, h1]; exact hB
  | row ty k m g => exact ⟨hB.pos, by rw [h4]; exact hB.nil, by rw [h4, h3]; exact hB.cap, by rw [h4, h1, h2, h3]; exact hB.mem, hB.len, hB.one⟩
  | lit ty k ch =>
    have hB : RowR E w l ty k ch.length (fun j => ch.getD j []) := hB
    exact RowR.mk hB.pos (by rw [h4]; exact hB.nil) (by rw [h4, h3]; exact hB.cap) (by rw [h4, h1, h2, h3]; exact hB.mem) hB.len hB.one
  | ro k m g => exact ⟨hB.pos, by rw [h4]; exact hB.nil, by rw [h4, h3]; exact hB.cap, by rw [h4, h1, h2]; exact hB.mem, hB.len, hB.one⟩
  | pm es => simp only [AB.by, BRep] at hB ⊢; rw [h1]; exact hB
  | dead => trivial

theorem BOk.by (h : Same f n n' E E') {B : AB} (hok : BOk E n B) : BOk E' n' (B.by f) := by
  cases B <;> try trivial
  obtain ⟨_, h2, h3⟩ := cells_by h hok.1
  exact ⟨h2, h3 hok.2⟩

theorem AB.by_own (B : AB) (b : Bool) : (B.by f).own b = B.own b := by cases B <;> rfl

end

/-! ### The caller's heap behind the call -/

def back (ls : List Nat) (N p : Nat) : Nat :=
  match ls[p]? with
  | some l => l
  | none => N + (p - ls.length)

def backSet (f : Nat → Nat) : List Nat → Heap → Heap → Heap
  | l :: ls, B :: H0, H => backSet f ls H0 (H.set l (B.by f))
  | _, _, H => H

def backH (ls : List Nat) (H H0 : Heap) : Heap := backSet (back ls H.length) ls H0 H ++ (H0.drop ls.length).map (AB.by (back ls H.length))

def noRo : Heap → Bool
  | [] => true
  | .ro .. :: _ => false
  | _ :: H => noRo H

theorem noRo_get : ∀ {H : Heap} {p k n : Nat} {g : Nat → List Value}, noRo H = true → H[p]? ≠ some (.ro k n g)
  | [], p, _, _, _, _ => by simp
  | B :: H, 0, k, n, g, h => by
    intro he
    simp at he
    subst he
    cases h
  | B :: H, p + 1, k, n, g, h => by
    intro he
    simp at he
    cases B <;> first | exact noRo_get (H := H) h he | cases h

theorem backSet_len (f : Nat → Nat) : ∀ (ls : List Nat) (H0 H : Heap), (backSet f ls H0 H).length = H.length
  | [], _, _ => by simp [backSet]
  | _ :: _, [], _ => by simp [backSet]
  | l :: ls, B :: H0, H => by simp [backSet, backSet_len f ls]

theorem backSet_out (f : Nat → Nat) : ∀ (ls : List Nat) (H0 H : Heap) (x : Nat), x ∉ ls → (backSet f ls H0 H)[x]? = H[x]?
  | [], _, _, _, _ => by simp [backSet]
  | _ :: _, [], _, _, _ => by simp [backSet]
  | l :: ls, B :: H0, H, x, hx => by
    simp only [List.mem_cons, not_or] at hx
    rw [backSet, backSet_out f ls H0 _ x hx.2, List.getElem?_set_ne (Ne.symm hx.1)]

theorem backSet_in (f : Nat → Nat) : ∀ (ls : List Nat) (H0 H : Heap) (p l : Nat) (B : AB), ls.Nodup → ls[p]? = some l → H0[p]? = some B → l < H.length → (backSet f ls H0 H)[l]? = some (B.by f)
  | [], _, _, p, l, B, _, h, _, _ => by simp at h
  | _ :: _, [], _, p, l, B, _, _, h, _ => by simp at h
  | l' :: ls, B' :: H0, H, 0, l, B, hn, h1, h2, h3 => by
    simp at h1 h2
    subst h1 h2
    rw [backSet, backSet_out f ls H0 _ _ (List.nodup_cons.1 hn).1, List.getElem?_set_self h3]
  | l' :: ls, B' :: H0, H, p + 1, l, B, hn, h1, h2, h3 => by
    simp at h1 h2
    rw [backSet]
    exact backSet_in f ls H0 _ p l B (List.nodup_cons.1 hn).2 h1 h2 (by simpa using h3)

theorem nodupB_list : ∀ {ls : List Nat}, nodupB (ls.map some) = true → ls.Nodup
  | [], _ => List.nodup_nil
  | l :: ls, h => by
    simp only [List.map_cons, nodupB, Bool.and_eq_true, Bool.not_eq_true'] at h
    refine List.nodup_cons.2 ⟨fun hm => ?_, nodupB_list h.2⟩
    obtain ⟨p, hp, he⟩ := List.mem_iff_getElem.1 hm
    have : memB l (ls.map some) = true := memB_of (p := p) (by simp [hp, he])
    rw [this] at h
    exact absurd h.1 (by simp)

/-- A contract in a heap of its own, lifted. -/
theorem CallsA.lift {P : Program} {f : Nat} {args args0 : List AV} {H H0 : Heap} (ls : List Nat) (hr : renFr (ls.map some) args = some args0) (hH : renH (ls.map some) H (ls.map some) = some H0) (hd : nodupB (ls.map some) = true)
    {Q0 Q : AV → Heap → Prop} (h : CallsA P f args0 H0 Q0) (hro : ∀ r H', Q0 r H' → noRo H' = true) (hq : ∀ r H', Q0 r H' → Q (r.by (back ls H.length)) (backH ls H H')) : CallsA P f args H Q := by
  intro E w hrep hargs
  obtain ⟨hst0, hlen0⟩ := step_ren (n0 := 0) hrep hH rfl hd
  obtain ⟨f1, f2, f3⟩ := renFr_ok (E := E) hr
  have hls : ∀ (p l : Nat), ls[p]? = some l → l < H.length := by
    intro p l hp
    obtain ⟨_, h2⟩ := renH_get hH
    have hp0 : p < H0.length := by rw [hlen0]; simpa using (List.getElem?_eq_some_iff.1 hp).1
    rcases h2 p _ (List.getElem?_eq_getElem hp0) with ⟨g, _⟩ | ⟨m, B, g1, g2, _⟩
    · simp [hp] at g
    · simp [hp] at g1
      subst g1
      exact lt_of_get g2
  have hvia : ∀ (p l : Nat), ls[p]? = some l → ((((ls.map some).getD p none).getD p : Nat)) = l := by
    intro p l hp
    rw [List.getD_eq_getElem?_getD, List.getElem?_map, hp]
    rfl
  have hnd := nodupB_list hd
  refine (show Calls P f (args.map (AV.conc E)).toArray w _ from by
    rw [← f1]
    exact h (E.via (ls.map some)) w hst0.rep fun x hx => ⟨by rw [hlen0]; exact f2 x hx, f3 (fun x hx => (hargs x hx).2) x hx⟩).mono ?_
  rintro e w' ⟨r, H0', E0', rfl, hst, g2, g3, g4⟩
  -- what the new numbers stand for
  have hlenls : ls.length ≤ H0'.length := by have := hst.len; rw [hlen0] at this; simpa using this
  let fb := back ls H.length
  let E' : Env := { blk := fun x => if x < H.length then E.blk x else E0'.blk (ls.length + (x - H.length)), base := fun x => if x < H.length then E.base x else E0'.base (ls.length + (x - H.length)), cap := fun x => if x < H.length then E.cap x else E0'.cap (ls.length + (x - H.length)), nil := fun x => if x < H.length then E.nil x else E0'.nil (ls.length + (x - H.length)) }
  have hfin : ∀ (p l : Nat), ls[p]? = some l → fb p = l := fun p l hp => by simp only [fb, back, hp]
  have hfout : ∀ (p : Nat), ls.length ≤ p → fb p = H.length + (p - ls.length) := fun p hp => by simp only [fb, back, List.getElem?_eq_none hp]
  have hlenB : (backH ls H H0').length = H.length + (H0'.length - ls.length) := by simp [backH, backSet_len]
  have hsame : Same fb H0'.length (backH ls H H0').length E0' E' := by
    have ag := hst.agree
    rw [hlen0] at ag
    simp only [List.length_map] at ag
    have eq : ∀ p, p < H0'.length → (∃ l, ls[p]? = some l ∧ l < H.length ∧ fb p = l) ∨ (ls.length ≤ p ∧ ¬ fb p < H.length ∧ ls.length + (fb p - H.length) = p) := by
      intro p hp
      by_cases hpl : p < ls.length
      · have := List.getElem?_eq_getElem hpl
        exact .inl ⟨_, this, hls p _ this, hfin p _ this⟩
      · have := hfout p (by omega)
        exact .inr ⟨by omega, by omega, by omega⟩
    refine ⟨fun p hp => ?_, fun p hp => ?_, fun p hp => ?_, fun p hp => ?_, fun p hp => ?_⟩ <;> rcases eq p hp with ⟨l, h1, h2, h3⟩ | ⟨h1, h2, h3⟩
    · omega
    · have := hfout p h1; omega
    · simp only [E', h3, if_pos h2]
      rw [ag.blk p (List.getElem?_eq_some_iff.1 h1).1]
      simp only [Env.via, hvia p l h1]
    · simp only [E', if_neg h2, h3]
    · simp only [E', h3, if_pos h2]
      rw [ag.base p (List.getElem?_eq_some_iff.1 h1).1]
      simp only [Env.via, hvia p l h1]
    · simp only [E', if_neg h2, h3]
    · simp only [E', h3, if_pos h2]
      rw [ag.cap p (List.getElem?_eq_some_iff.1 h1).1]
      simp only [Env.via, hvia p l h1]
    · simp only [E', if_neg h2, h3]
    · simp only [E', h3, if_pos h2]
      rw [ag.nil p (List.getElem?_eq_some_iff.1 h1).1]
      simp only [Env.via, hvia p l h1]
    · simp only [E', if_neg h2, h3]
  have hag : Env.Agree H.length E E' := ⟨fun l hl => if_pos hl, fun l hl => if_pos hl, fun l hl => if_pos hl, fun l hl => if_pos hl⟩
  -- the blocks behind the call
  have get : ∀ {x : Nat} {C : AB}, (backH ls H H0')[x]? = some C → (x ∉ ls ∧ x < H.length ∧ H[x]? = some C) ∨ (∃ p B, H0'[p]? = some B ∧ fb p = x ∧ C = B.by fb) := by
    intro x C hx
    unfold backH at hx
    by_cases hxl : x < H.length
    · rw [List.getElem?_append_left (by rw [backSet_len]; exact hxl)] at hx
      by_cases hm : x ∈ ls
      · obtain ⟨p, hp, he⟩ := List.mem_iff_getElem.1 hm
        have hp' : ls[p]? = some x := by rw [List.getElem?_eq_getElem hp, he]
        have hB := List.getElem?_eq_getElem (show p < H0'.length by omega)
        rw [backSet_in _ ls H0' H p x _ hnd hp' hB hxl] at hx
        exact .inr ⟨p, _, hB, hfin p x hp', by simpa using hx.symm⟩
      · rw [backSet_out _ ls H0' H x hm] at hx
        exact .inl ⟨hm, hxl, hx⟩
    · rw [List.getElem?_append_right (by rw [backSet_len]; omega), backSet_len, List.getElem?_map, List.getElem?_drop] at hx
      obtain ⟨B, hB, he⟩ := Option.map_eq_some_iff.1 hx
      exact .inr ⟨_, B, hB, by rw [hfout _ (by omega)]; omega, he.symm⟩
  have him0 : ∀ b, Im (E.via (ls.map some)) H0 b → Im E H b ∧ ∀ x, x ∉ ls → ∀ C, H[x]? = some C → C.own (E.nil x) = true → E.blk x ≠ b := by
    rintro b ⟨p, B, hb, ho, rfl⟩
    obtain ⟨_, h2⟩ := renH_get hH
    rcases h2 p B hb with ⟨_, rfl⟩ | ⟨l, B0, k1, k2, k3⟩
    · cases ho
    · simp only [List.getElem?_map, Option.map_eq_some_iff, Option.some.injEq, exists_eq_right] at k1
      have hv := hvia p l k1
      simp only [Env.via, hv] at ho ⊢
      rw [(AB.ren_own k3 _).1] at ho
      refine ⟨⟨l, B0, k2, ho, rfl⟩, fun x hx C hC hoC he => hx ?_⟩
      have := hrep.inj x l C B0 hC k2 hoC ho he
      subst this
      exact List.mem_of_getElem? k1
  have hro' := hro r H0' g4
  have imB : ∀ b, b < w.heap.size → Im E' (backH ls H H0') b → Im E H b := by
    rintro b hb ⟨x, C, hx, ho, rfl⟩
    rcases get hx with ⟨h1, h2, h3⟩ | ⟨p, B, h1, h2, h3⟩
    · rw [hag.nil x h2] at ho
      rw [hag.blk x h2]
      exact ⟨x, C, h3, ho, rfl⟩
    · subst h2 h3
      have hp := lt_of_get h1
      rw [AB.by_own, hsame.nil p hp] at ho
      rw [hsame.blk p hp] at hb ⊢
      exact (him0 _ (hst.im _ hb ⟨p, B, h1, ho, rfl⟩)).1
  have hrep' : HRep E' (backH ls H H0') w' := by
    refine ⟨fun x C hx => ?_, fun x C hx => ?_, fun x x' C C' hx hx' ho ho' he => ?_, fun x k n g hx hn hi => ?_⟩
    · rcases get hx with ⟨h1, h2, h3⟩ | ⟨p, B, h1, h2, h3⟩
      · have hr := hrep.rep x C h3
        refine BRep.agree hag h2 (hrep.ok x C h3) (hr.kept fun hc => ?_)
        rcases hc with ho | ⟨⟨k, m, g, rfl⟩, hn⟩
        · exact hst.frame _ (hr.lt ho) fun hi => (him0 _ hi).2 x h1 C h3 ho rfl
        · exact hst.frame _ (ro_lt hr hn) fun hi => hrep.ro x k m g h3 hn (him0 _ hi).1
      · subst h2 h3
        exact BRep.by hsame (lt_of_get h1) (hst.rep.ok p B h1) (hst.rep.rep p B h1)
    · rcases get hx with ⟨h1, h2, h3⟩ | ⟨p, B, h1, h2, h3⟩
      · exact (hrep.ok x C h3).agree hag (by rw [hlenB]; omega)
      · subst h2 h3
        exact BOk.by hsame (hst.rep.ok p B h1)
    · rcases get hx with ⟨h1, h2, h3⟩ | ⟨p, B, h1, h2, h3⟩ <;> rcases get hx' with ⟨k1, k2, k3⟩ | ⟨p', B', k1, k2, k3⟩
      · rw [hag.nil x h2] at ho
        rw [hag.nil x' k2] at ho'
        rw [hag.blk x h2, hag.blk x' k2] at he
        exact hrep.inj x x' C C' h3 k3 ho ho' he
      · subst k2 k3
        have hp := lt_of_get k1
        rw [hag.nil x h2] at ho
        rw [AB.by_own, hsame.nil p' hp] at ho'
        rw [hag.blk x h2, hsame.blk p' hp] at he
        have hb := (hrep.rep x C h3).lt ho
        exact absurd he ((him0 _ (hst.im _ (he ▸ hb) ⟨p', B', k1, ho', rfl⟩)).2 x h1 C h3 ho)
      · subst h2 h3
        have hp := lt_of_get h1
        rw [hag.nil x' k2] at ho'
        rw [AB.by_own, hsame.nil p hp] at ho
        rw [hag.blk x' k2, hsame.blk p hp] at he
        have hb := (hrep.rep x' C' k3).lt ho'
        exact absurd he.symm ((him0 _ (hst.im _ (he ▸ hb) ⟨p, B, h1, ho, rfl⟩)).2 x' k1 C' k3 ho')
      · subst h2 h3 k2 k3
        have hp := lt_of_get h1
        have hp' := lt_of_get k1
        rw [AB.by_own, hsame.nil p hp] at ho
        rw [AB.by_own, hsame.nil p' hp'] at ho'
        rw [hsame.blk p hp, hsame.blk p' hp'] at he
        rw [hst.rep.inj p p' B B' h1 k1 ho ho' he]
    · rcases get hx with ⟨h1, h2, h3⟩ | ⟨p, B, h1, h2, h3⟩
      · rw [hag.nil x h2] at hn
        have hb := ro_lt (hrep.rep x _ h3) hn
        rw [hag.blk x h2] at hi
        exact hrep.ro x k n g h3 hn (imB _ hb hi)
      · have : B = .ro k n g := by cases B <;> simp [AB.by] at h3 ⊢; exact ⟨h3.1.symm, h3.2.1.symm, h3.2.2.symm⟩
        subst this
        exact absurd h1 (noRo_get hro')
  obtain ⟨v1, v2, v3⟩ := AV.by_ok hsame g2
  refine ⟨r.by fb, backH ls H H0', E', by rw [v1], ⟨hag, by rw [hlenB]; omega, hrep', hst.os, hst.tape, hst.output, hst.size, fun b hb hi => hst.frame b hb fun h0 => hi (him0 b h0).1, imB⟩, v2, v3 g3, hq r H0' g4⟩

end Go.Proofs.Ythckkoledhjmeaa.Ev
