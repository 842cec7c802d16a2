/-
  A summary: two rows of packets are the same.
-/
import Derived.Test.YthckkoledhjmeaaXF
namespace Go.Proofs.Ythckkoledhjmeaa.Ev
open Go

/-- A row that is only read is told by another function that says the same of its elements. -/
theorem Re.roG {n0 : Nat} {fr : List AV} {H : Heap} {R : List AV → Heap → Prop} (l : Nat) {k n : Nat} {g : Nat → List Value} (g' : Nat → List Value) (hl : H[l]? = some (.ro k n g)) (hg : ∀ j, j < n → g j = g' j)
    (h : Re n0 fr (H.set l (.ro k n g')) R) : Re n0 fr H R := by
  intro E w h1 h2 h3
  have hrow : RoR E w l k n g := h1.rep l _ hl
  have hrow' : RoR E w l k n g' := by
    refine ⟨hrow.pos, hrow.nil, hrow.cap, fun hn => ?_, fun i hi => by rw [← hg i hi]; exact hrow.len i hi, fun i hi => by rw [← hg i hi]; exact hrow.one i hi⟩
    obtain ⟨g1, g3⟩ := hrow.mem hn
    exact ⟨g1, fun i hi j hj => by rw [← hg i hi]; exact g3 i hi j hj⟩
  have get : ∀ {l' : Nat} {C : AB}, (H.set l (.ro k n g'))[l']? = some C → (l' = l ∧ C = .ro k n g') ∨ H[l']? = some C := by
    intro l' C hc
    rcases get_set hc with ⟨_, h8⟩ | ⟨h7, h8, _⟩
    · exact .inr h8
    · exact .inl ⟨h7, h8.symm⟩
  have get2 : ∀ {l' : Nat} {C : AB}, (H.set l (.ro k n g'))[l']? = some C → ∃ C0, H[l']? = some C0 ∧ (∀ b, C0.own b = C.own b) ∧ (∀ k n g, C = .ro k n g → ∃ g0, C0 = .ro k n g0) := by
    intro l' C hc
    rcases get hc with ⟨rfl, rfl⟩ | h8
    · exact ⟨_, hl, fun _ => rfl, fun _ _ _ h => by cases h; exact ⟨g, rfl⟩⟩
    · exact ⟨_, h8, fun _ => rfl, fun _ _ g0 h => ⟨g0, h⟩⟩
  have him : ∀ b, Im E (H.set l (.ro k n g')) b → Im E H b := by
    rintro b ⟨l', C, hc, ho, rfl⟩
    obtain ⟨C0, g1, g2, _⟩ := get2 hc
    exact ⟨l', C0, g1, by rw [g2]; exact ho, rfl⟩
  have hst : Step n0 E H w E (H.set l (.ro k n g')) w := by
    refine ⟨.refl _ _, by simpa using h3, ⟨fun l' C hc => ?_, fun l' C hc => ?_, fun l1 l2 C1 C2 hc1 hc2 ho1 ho2 he => ?_, fun l' k' n' g'' hc hn hi => ?_⟩, rfl, rfl, rfl, Nat.le_refl _, fun _ _ _ => rfl, fun b _ => him b⟩
    · rcases get hc with ⟨rfl, rfl⟩ | h8
      · exact hrow'
      · exact h1.rep l' C h8
    · rw [List.length_set]
      rcases get hc with ⟨rfl, rfl⟩ | h8
      · trivial
      · exact h1.ok l' C h8
    · obtain ⟨D1, g1, g2, _⟩ := get2 hc1
      obtain ⟨D2, k1, k2, _⟩ := get2 hc2
      exact h1.inj l1 l2 D1 D2 g1 k1 (by rw [g2]; exact ho1) (by rw [k2]; exact ho2) he
    · obtain ⟨D, g1, _, g3⟩ := get2 hc
      obtain ⟨g0, rfl⟩ := g3 _ _ _ rfl
      exact h1.ro l' k' n' g0 g1 hn (him _ hi)
  obtain ⟨fr3, H3, E3, k1, k2, k3, k4⟩ := h E w hst.rep (fun x hx => by rw [List.length_set]; exact h2 x hx) hst.len
  exact ⟨fr3, H3, E3, hst.trans k1 (Nat.le_refl _), k2, k3, k4⟩

/-- What is handed back, told in another way. -/
theorem CallsA.out {P : Program} {f : Nat} {args : List AV} {H : Heap} {Q Q2 : AV → Heap → Prop} (h : CallsA P f args H Q) (hq : ∀ r H', Q r H' → ∃ r2 : AV, (∀ E, r2.conc E = r.conc E) ∧ r2.ref ≤ r.ref ∧ (∀ E, r.ok E → r2.ok E) ∧ Q2 r2 H') : CallsA P f args H Q2 := by
  intro E w hr ha
  refine (h E w hr ha).mono ?_
  rintro e w' ⟨r, H', E', rfl, h2, h3, h4, h5⟩
  obtain ⟨r2, g1, g2, g3, g4⟩ := hq r H' h5
  exact ⟨r2, H', E', by rw [g1], h2, Nat.le_trans g2 h3, g3 E' h4, g4⟩

/-- A bool that is handed back is known in each case. -/
theorem CallsA.bool {P : Program} {f : Nat} {args : List AV} {H : Heap} {b : Bool} {Q : AV × Heap → Prop} (h : CallsA P f args H fun r H' => H' = H ∧ r = .d (.bool b)) (hq : (T.ite b (.ret (AV.c (.bool true), H)) (.ret (AV.c (.bool false), H))).sat P Q) : CallsA P f args H fun r H' => Q (r, H') := by
  refine h.out ?_
  rintro r H' ⟨rfl, rfl⟩
  refine ⟨.c (.bool b), fun _ => rfl, Nat.le_refl _, fun _ _ => ok_s.2 trivial, ?_⟩
  cases b
  · exact hq.2 rfl
  · exact hq.1 rfl

def s16 (args : List AV) (H : Heap) : T (AV × Heap) :=
  match args with
  | [.e (.s (.sl l 4 i n _)), .e (.s (.sl l2 4 j m _))] => match rowOf H l, rowOf H l2, Nat.beq l l2 with
    | some (4, N, g), some (4, N2, g2), false => .need ((i + n ≤ N ∧ j + m ≤ N2 ∧ n ≤ most) ∧ PkRow N g ∧ PkRow N2 g2) (.ite (samePk n (fun x => decPkt (g (i + x))) m (fun x => decPkt (g2 (j + x)))) (.ret (.c (.bool true), H)) (.ret (.c (.bool false), H)))
    | _, _, _ => .fail
  | _ => .fail

theorem s16ok : (Ent.summ s16).ok Try.prog 16 := by
  intro args H Q hq
  unfold s16 at hq
  split at hq
  · rename_i l i n z l2 j m z2
    split at hq
    · rename_i N g N2 g2 h1 h2 hb
      obtain ⟨⟨⟨c1, c2, c3⟩, p1, p2⟩, hq⟩ := hq
      have hne : l ≠ l2 := by intro e; subst e; rw [Nat.beq_refl] at hb; cases hb
      unfold most at c3
      refine CallsA.bool ((CallsA.liftR (args0 := [.e (.s (.sl 0 4 i n z)), .e (.s (.sl 1 4 j m z2))]) (Hr := [.ro 4 N g, .ro 4 N2 g2]) [l, l2] ?_ ?_ (Q0 := fun v => v = .bool (samePk n (fun x => decPkt (g (i + x))) m (fun x => decPkt (g2 (j + x))))) (CallsA.pre ?_)).mono ?_) hq
      · simp only [List.map_cons, List.map_nil, renFr, AV.ren, EV.ren, sl_ren (pos2a l l2), sl_ren (pos2b hne)]
      · simp only [roH, h1, h2]
      · refine Re.roG 0 (pkF fun x => decPkt (g x)) rfl p1 (Re.roG 1 (pkF fun x => decPkt (g2 x)) rfl p2 (.refl ?_))
        exact same16 (fun x => decPkt (g x)) (fun x => decPkt (g2 x)) N N2 i n z j m z2 c1 c2 (by omega)
      · rintro r H' ⟨rfl, v, rfl, rfl⟩
        exact ⟨rfl, rfl⟩
    · exact hq.elim
  · exact hq.elim

/-! ### Summaries of what calls ledger.some -/

def s17 (args : List AV) (H : Heap) : T (AV × Heap) :=
  match args with
  | [.e (.s (.ptr l 0)), a, b] => match ledAt H l, numA a, numA b with
    | some (L, lm), some (.i64, att), some (.i64, tmo) => .need (L.Ok ∧ I64 att ∧ I64 tmo) (.ret (.e (.s (.sl H.length 4 0 (expP L att tmo).length 0)), putLed H l lm (expL L att tmo) ++ [.row 36 4 (expP L att tmo).length (pkG (expP L att tmo))]))
    | _, _, _ => .fail
  | _ => .fail

def s19 (args : List AV) (H : Heap) : T (AV × Heap) :=
  match args with
  | [.e (.s (.ptr l 0))] => match ledAt H l with
    | some (L, lm) => .need L.Ok (.ret (.e (.s (.sl H.length 4 0 L.es.length 0)), putLed H l lm L ++ [.row 36 4 L.es.length (pkG L.es)]))
    | _ => .fail
  | _ => .fail

/-- The document's rows hold. -/
def s22 (args : List AV) (H : Heap) : T (AV × Heap) :=
  match args with
  | [] => .ret (.c (.bool true), H)
  | _ => .fail

end Go.Proofs.Ythckkoledhjmeaa.Ev
