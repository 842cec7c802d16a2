/-
  Contracts told for pure data hold for what is known, too; summaries; whether a packet's time is over.
-/
import Derived.Test.YthckkoledhjmeaaXA
namespace Go.Proofs.Ythckkoledhjmeaa.Ev
open Go

theorem step_toD {E : Env} {H : Heap} {w : World} {n0 : Nat} (h : HRep E H w) (hn : n0 ≤ H.length) : Step n0 E H w E (H.map AB.toD) w := by
  refine ⟨.refl _ _, by simpa using hn, hrep_toD h, rfl, rfl, rfl, Nat.le_refl _, fun _ _ _ => rfl, fun b _ => ?_⟩
  rintro ⟨l, C, hl, ho, rfl⟩
  rw [List.getElem?_map] at hl
  obtain ⟨B, hB, rfl⟩ := Option.map_eq_some_iff.1 hl
  exact ⟨l, B, hB, by cases B <;> exact ho, rfl⟩

theorem CallsA.toD {P : Program} {f : Nat} {args : List AV} {H : Heap} {Q : AV → Heap → Prop} (h : CallsA P f (args.map AV.toD) (H.map AB.toD) Q) : CallsA P f args H Q := by
  intro E w hr ha
  have hst := step_toD hr (Nat.le_refl _)
  have e1 : (args.map AV.toD).map (AV.conc E) = args.map (AV.conc E) := by
    rw [List.map_map]
    exact List.map_congr_left fun x _ => (AV.toD_conc x).1
  have := h E w hst.rep (fun x hx => by
    obtain ⟨y, hy, rfl⟩ := List.mem_map.1 hx
    rw [List.length_map, (AV.toD_conc (E := E) y).2.1]
    exact ⟨(ha y hy).1, (AV.toD_conc y).2.2 (ha y hy).2⟩)
  rw [e1] at this
  refine this.mono ?_
  rintro e w' ⟨r, H', E', h1, h2, h3, h4, h5⟩
  rw [List.length_map] at h2
  exact ⟨r, H', E', h1, hst.trans h2 (Nat.le_refl _), h3, h4, h5⟩

/-- What is known becomes pure data, where it is asked. -/
def toDs : List Bool → List AV → List AV
  | b :: bs, x :: xs => (match b with | true => x.toD | false => x) :: toDs bs xs
  | _, xs => xs

def toDHs : List Bool → Heap → Heap
  | b :: bs, x :: xs => (match b with | true => x.toD | false => x) :: toDHs bs xs
  | _, xs => xs

theorem toDs_conc {E : Env} : ∀ (bs : List Bool) (xs : List AV), (toDs bs xs).map (AV.conc E) = xs.map (AV.conc E)
  | [], xs => by cases xs <;> rfl
  | _ :: _, [] => rfl
  | b :: bs, x :: xs => by
    simp only [toDs, List.map_cons, toDs_conc bs xs]
    cases b
    · rfl
    · simp only [(AV.toD_conc (E := E) x).1]

theorem toDs_ref {E : Env} {n : Nat} : ∀ (bs : List Bool) (xs : List AV), (∀ x ∈ xs, x.ref ≤ n ∧ x.ok E) → ∀ x ∈ toDs bs xs, x.ref ≤ n ∧ x.ok E
  | [], xs, h => by cases xs <;> exact h
  | _ :: _, [], h => h
  | b :: bs, x :: xs, h => by
    simp only [List.mem_cons, forall_eq_or_imp] at h
    simp only [toDs, List.mem_cons, forall_eq_or_imp]
    refine ⟨?_, toDs_ref bs xs h.2⟩
    cases b
    · exact h.1
    · exact ⟨by rw [(AV.toD_conc (E := E) x).2.1]; exact h.1.1, (AV.toD_conc x).2.2 h.1.2⟩

theorem toDHs_len : ∀ (bs : List Bool) (H : Heap), (toDHs bs H).length = H.length
  | [], H => by cases H <;> rfl
  | _ :: _, [] => rfl
  | b :: bs, x :: xs => by simp only [toDHs, List.length_cons, toDHs_len bs xs]

theorem toDHs_get : ∀ (bs : List Bool) (H : Heap) {l : Nat} {C : AB}, (toDHs bs H)[l]? = some C → H[l]? = some C ∨ ∃ B, H[l]? = some B ∧ C = B.toD
  | [], H, l, C, h => by cases H <;> exact .inl h
  | _ :: _, [], l, C, h => by simp [toDHs] at h
  | b :: bs, x :: xs, 0, C, h => by
    simp only [toDHs, List.getElem?_cons_zero, Option.some.injEq] at h
    cases b
    · exact .inl (by simp [h])
    · exact .inr ⟨x, by simp, h.symm⟩
  | b :: bs, x :: xs, l + 1, C, h => by
    simp only [toDHs, List.getElem?_cons_succ] at h
    simpa using toDHs_get bs xs h

theorem step_toDs {E : Env} {H : Heap} {w : World} {n0 : Nat} (bs : List Bool) (h : HRep E H w) (hn : n0 ≤ H.length) : Step n0 E H w E (toDHs bs H) w := by
  have get : ∀ {l : Nat} {C : AB}, (toDHs bs H)[l]? = some C → ∃ B, H[l]? = some B ∧ (C = B ∨ C = B.toD) := by
    intro l C hl
    rcases toDHs_get bs H hl with h | ⟨B, h1, h2⟩
    · exact ⟨C, h, .inl rfl⟩
    · exact ⟨B, h1, .inr h2⟩
  have own : ∀ (B : AB) b, B.toD.own b = B.own b := fun B b => by cases B <;> rfl
  have him : ∀ b, Im E (toDHs bs H) b → Im E H b := by
    rintro b ⟨l, C, hl, ho, rfl⟩
    obtain ⟨B, hB, rfl | rfl⟩ := get hl
    · exact ⟨l, C, hB, ho, rfl⟩
    · exact ⟨l, B, hB, by rw [← own]; exact ho, rfl⟩
  have hD := hrep_toD h
  have hDg : ∀ {l : Nat} {B : AB}, H[l]? = some B → (H.map AB.toD)[l]? = some B.toD := fun hl => by rw [List.getElem?_map, hl]; rfl
  refine ⟨.refl _ _, by rw [toDHs_len]; exact hn, ⟨fun l C hl => ?_, fun l C hl => ?_, fun l l' C C' hl hl' ho ho' he => ?_, fun l k n g hl hn hi => ?_⟩, rfl, rfl, rfl, Nat.le_refl _, fun _ _ _ => rfl, fun b _ => him b⟩
  · obtain ⟨B, hB, rfl | rfl⟩ := get hl
    · exact h.rep l _ hB
    · exact hD.rep l _ (hDg hB)
  · rw [toDHs_len]
    obtain ⟨B, hB, rfl | rfl⟩ := get hl
    · exact h.ok l _ hB
    · have := hD.ok l _ (hDg hB); rwa [List.length_map] at this
  · have key : ∀ {l : Nat} {C : AB}, (toDHs bs H)[l]? = some C → C.own (E.nil l) = true → ∃ B : AB, H[l]? = some B ∧ B.own (E.nil l) = true := by
      intro l C hl ho
      obtain ⟨B, hB, rfl | rfl⟩ := get hl
      · exact ⟨_, hB, ho⟩
      · exact ⟨_, hB, by rw [← own]; exact ho⟩
    obtain ⟨B, h1, h2⟩ := key hl ho
    obtain ⟨B', h1', h2'⟩ := key hl' ho'
    exact h.inj l l' B B' h1 h1' h2 h2' he
  · obtain ⟨B, hB, he | he⟩ := get hl
    · subst he; exact h.ro l k n g hB hn (him _ hi)
    · have : B = .ro k n g := by cases B <;> simp [AB.toD] at he ⊢; exact ⟨he.1.symm, he.2.1.symm, he.2.2.symm⟩
      subst this
      exact h.ro l k n g hB hn (him _ hi)

theorem Re.toDm {n0 : Nat} {fr : List AV} {H : Heap} {R : List AV → Heap → Prop} (bs hs : List Bool) (h : Re n0 (toDs bs fr) (toDHs hs H) R) : Re n0 fr H R := by
  intro E w h1 h2 h3
  have hst := step_toDs (n0 := n0) hs h1 h3
  obtain ⟨fr3, H3, E3, k1, k2, k3, k4⟩ := h E w hst.rep (fun x hx => by rw [toDHs_len]; exact toDs_ref bs fr h2 x hx) hst.len
  exact ⟨fr3, H3, E3, hst.trans k1 (Nat.le_refl _), by rw [k2, toDs_conc], k3, k4⟩

/-! ### Numbers -/

theorem num_facts {x : SV} {k : IntKind} {n : Int} (h : x.num = some (k, n)) : (∀ ms, x.ren ms = some x) ∧ x.toD = .d (.int k n) ∧ ∀ f, x.by f = x := by
  cases x with
  | c v =>
    cases v <;> simp [SV.num] at h
    obtain ⟨rfl, rfl⟩ := h
    exact ⟨fun _ => rfl, rfl, fun _ => rfl⟩
  | d v =>
    cases v <;> simp [SV.num] at h
    obtain ⟨rfl, rfl⟩ := h
    exact ⟨fun _ => rfl, rfl, fun _ => rfl⟩
  | _ => simp [SV.num] at h

theorem numA_facts {x : AV} {k : IntKind} {n : Int} (h : numA x = some (k, n)) : (∀ ms, x.ren ms = some x) ∧ x.toD = .d (.int k n) := by
  cases x with
  | tup vs => simp [numA] at h
  | e x => cases x with
    | agg cs => simp [numA] at h
    | s x =>
      obtain ⟨h1, h2, h3⟩ := num_facts (x := x) h
      exact ⟨fun ms => by simp only [AV.ren, EV.ren, h1], by simp only [AV.toD, EV.toD, h2]⟩

theorem pk4_facts {cs : List SV} {p : Pkt} (h : pk4 cs = some p) : (∀ ms, renCells ms cs = some cs) ∧ cs.map SV.toD = p.cells := by
  unfold pk4 at h
  split at h
  · rename_i a b c d
    split at h
    · rename_i a' b' c' d' ha hb hc hd
      cases h
      obtain ⟨a1, a2, _⟩ := num_facts ha
      obtain ⟨b1, b2, _⟩ := num_facts hb
      obtain ⟨c1, c2, _⟩ := num_facts hc
      obtain ⟨d1, d2, _⟩ := num_facts hd
      exact ⟨fun ms => by simp only [renCells, a1, b1, c1, d1], by simp only [List.map_cons, List.map_nil, a2, b2, c2, d2, Pkt.cells]⟩
    · cases h
  · cases h

theorem agg_ren {cs : List SV} (ms : List (Option Nat)) (h : renCells ms cs = some cs) : (AV.e (.agg cs)).ren ms = some (.e (.agg cs)) := by
  simp only [AV.ren, EV.ren, h]

theorem agg_toD (cs : List SV) : (AV.e (.agg cs)).toD = .e (.agg (cs.map SV.toD)) := rfl

theorem backH_nil (H : Heap) : backH [] H [] = H := by simp [backH, backSet]

/-- A function of pure data that turns no memory. -/
theorem CallsA.pure {P : Program} {f : Nat} {args args0 : List AV} {H : Heap} (hr : renFr [] args = some args) (ha : args.map AV.toD = args0) {r : AV} (hb : ∀ f, r.by f = r) {Q : AV → Heap → Prop} (h : CallsA P f args0 [] fun r' H' => r' = r ∧ H' = []) (hq : Q r H) : CallsA P f args H Q := by
  subst ha
  refine CallsA.lift (args0 := args) (H0 := []) [] hr rfl rfl (CallsA.toD h) ?_ ?_
  · rintro r' H' ⟨rfl, rfl⟩; rfl
  · rintro r' H' ⟨rfl, rfl⟩
    rw [hb, backH_nil]
    exact hq

theorem wrap64 {x : Int} (h : I64 x) : IntKind.i64.wrap x = x := by rw [IntKind.wrap_i64]; unfold I64 at h; omega

theorem e43ok : EntsOk Try.prog e43 := ⟨k43, trivial⟩

theorem over43 (att tmo : Int) (p : Pkt) (h1 : I64 att) (h2 : I64 tmo) (h3 : 0 ≤ p.sent) (h4 : p.sent ≤ 1099511627776) :
    CallsA Try.prog 43 [.e (.agg p.cells), .d (.int .i64 att), .d (.int .i64 tmo)] [] fun r H' => r = .d (.bool (overX att tmo p)) ∧ H' = [] := by
  refine CallsA.re (calls_of fine e43ok 1 43 _ _ ?_)
  show (t43 att tmo p).sat _ _
  rw [t43_eq]
  unfold I64 at h1 h2
  have key : ∀ b : Bool, overX att tmo p = b → Re 0 [AV.e (EV.s (SV.c (Value.bool b)))] [] fun fr H2 => ∃ r2, fr = [r2] ∧ r2 = .d (.bool (overX att tmo p)) ∧ H2 = [] := by
    intro b hb
    rw [hb]
    exact .toD (.refl ⟨_, rfl, rfl, rfl⟩)
  simp only [T.sat, IntKind.wrap_i64, decide_eq_true_eq, decide_eq_false_iff_not]
  refine ⟨fun _ => ⟨fun _ => ⟨fun _ => key _ ?_, fun _ => ⟨fun _ => ⟨fun _ => ⟨fun _ => key _ ?_, fun _ => ⟨fun _ => key _ ?_, fun _ => key _ ?_⟩⟩, fun _ => ⟨fun _ => key _ ?_, fun _ => key _ ?_⟩⟩, fun _ => ⟨fun _ => key _ ?_, fun _ => key _ ?_⟩⟩⟩,
      fun _ => ⟨fun _ => ⟨fun _ => ⟨fun _ => key _ ?_, fun _ => ⟨fun _ => key _ ?_, fun _ => key _ ?_⟩⟩, fun _ => ⟨fun _ => key _ ?_, fun _ => key _ ?_⟩⟩, fun _ => ⟨fun _ => key _ ?_, fun _ => key _ ?_⟩⟩⟩,
    fun _ => ⟨fun _ => ⟨fun _ => ⟨fun _ => key _ ?_, fun _ => ⟨fun _ => key _ ?_, fun _ => key _ ?_⟩⟩, fun _ => ⟨fun _ => key _ ?_, fun _ => key _ ?_⟩⟩, fun _ => ⟨fun _ => key _ ?_, fun _ => key _ ?_⟩⟩⟩ <;>
    simp only [overX, decide_eq_true_eq, decide_eq_false_iff_not] <;> omega

theorem s43ok : (Ent.summ s43).ok Try.prog 43 := by
  intro args H Q hq
  unfold s43 at hq
  split at hq
  · rename_i cs a b
    split at hq
    · rename_i p att tmo hp ha hb
      obtain ⟨⟨h1, h2, h3, h4⟩, hq⟩ := hq
      obtain ⟨p1, p2⟩ := pk4_facts hp
      obtain ⟨a1, a2⟩ := numA_facts ha
      obtain ⟨b1, b2⟩ := numA_facts hb
      refine CallsA.pure (args0 := [.e (.agg p.cells), .d (.int .i64 att), .d (.int .i64 tmo)]) ?_ ?_ (fun _ => rfl) (over43 att tmo p h1 h2 h3 h4) hq
      · simp only [renFr, a1, b1, agg_ren _ (p1 _)]
      · simp only [List.map_cons, List.map_nil, a2, b2, agg_toD, p2]
    · exact hq.elim
  · exact hq.elim

end Go.Proofs.Ythckkoledhjmeaa.Ev
