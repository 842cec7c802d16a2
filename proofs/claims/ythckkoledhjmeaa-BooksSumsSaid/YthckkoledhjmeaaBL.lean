/-
  Rows of accounts: they are compared; they are cloned; summaries.
-/
import Derived.Test.YthckkoledhjmeaaBK
namespace Go.Proofs.Ythckkoledhjmeaa.Ev
open Go

instance : DecidableEq Mi := fun a b => decidable_of_iff (a.id = b.id ∧ a.frm = b.frm ∧ a.to = b.to ∧ a.sent = b.sent ∧ a.acked = b.acked ∧ a.lost = b.lost ∧ a.packets = b.packets ∧ a.hits = b.hits ∧ a.drops = b.drops ∧ a.n = b.n ∧ a.sumT = b.sumT ∧ a.sumR = b.sumR ∧ a.sumTT = b.sumTT ∧ a.sumTR = b.sumTR ∧ a.sumRR = b.sumRR) (by cases a; cases b; simp)

theorem mi_eq {p q : Mi} : (p.id == q.id && (p.frm == q.frm && (p.to == q.to && (p.sent == q.sent && (p.acked == q.acked && (p.lost == q.lost && (p.packets == q.packets && (p.hits == q.hits && (p.drops == q.drops && (p.n == q.n && (p.sumT == q.sumT && (p.sumR == q.sumR && (p.sumTT == q.sumTT && (p.sumTR == q.sumTR && (p.sumRR == q.sumRR && true))))))))))))))) = decide (p = q) := by
  rw [Bool.eq_iff_iff]
  simp only [Bool.and_eq_true, beq_iff_eq, and_true, decide_eq_true_eq]
  constructor
  · rintro ⟨h1, h2, h3, h4, h5, h6, h7, h8, h9, h10, h11, h12, h13, h14, h15⟩
    cases p; cases q; simp_all
  · rintro rfl; simp

def decMi : List Value → Mi
  | [.int .i64 a, .int .i64 b, .int .i64 c, .int .i64 d, .int .i64 e, .int .i64 f, .int .i64 g, .int .i64 h, .int .i64 i, .int .i64 j, .int .i64 k, .int .i64 l, .int .i64 m, .int .i64 n, .int .i64 o] => ⟨a, b, c, d, e, f, g, h, i, j, k, l, m, n, o⟩
  | _ => Mi.zero

@[simp] theorem dec_miv (m : Mi) : decMi m.vals = m := rfl

def MiRow (n : Nat) (g : Nat → List Value) : Prop := ∀ j, j < n → g j = (decMi (g j)).vals

theorem miRow_F (n : Nat) (f : Nat → Mi) : MiRow n (miF f) := fun _ _ => rfl
theorem miRow_G (n : Nat) (ms : List Mi) : MiRow n (miG ms) := fun _ _ => rfl
theorem miG_get (ms : List Mi) (j : Nat) : miG ms j = (ms.getD j Mi.zero).vals := rfl

def sameMi (n : Nat) (f : Nat → Mi) (m : Nat) (g : Nat → Mi) : Bool := n == m && (List.range n).all fun j => decide (f j = g j)

theorem sameMi_iff {n m : Nat} {f g : Nat → Mi} : sameMi n f m g = true ↔ n = m ∧ ∀ j, j < n → f j = g j := by
  simp [sameMi]

theorem e27ok : EntsOk Try.prog e27 := ⟨k27, trivial⟩

set_option maxRecDepth 100000 in
theorem same27 (fa fb : Nat → Mi) (na nb n za m zb : Nat) (h1 : n ≤ na) (h2 : m ≤ nb) (hb : n < 9223372036854775807) :
    CallsA Try.prog 27 [.e (.s (.sl 0 15 0 n za)), .e (.s (.sl 1 15 0 m zb))] [.ro 15 na (miF fa), .ro 15 nb (miF fb)] fun r _ =>
      ∃ v, (r = .c v ∨ r = .d v) ∧ v = .bool (sameMi n fa m fb) := by
  refine calls_of fine e27ok 1 27 _ _ ?_
  show (t27 fa fb na nb n za m zb).sat _ _
  rw [t27_eq]
  refine ⟨fun h => ⟨_, .inl rfl, ?_⟩, fun h => ?_⟩
  · have hne : n ≠ m := by intro e; subst e; simp at h
    have : sameMi n fa m fb = false := by
      rw [Bool.eq_false_iff, Ne, sameMi_iff]
      exact fun h => hne h.1
    rw [this]
  · have hnm : n = m := by simp at h; omega
    have hn : ∀ (xs : List AV) (H : Heap), (∃ i : Nat, xs = [.e (.s (.sl 0 15 0 n za)), .e (.s (.sl 1 15 0 m zb)), .d (.bool false), .d (.int .i64 i)] ∧ H = [.ro 15 na (miF fa), .ro 15 nb (miF fb)] ∧ i ≤ n ∧ ∀ j, j < i → fa j = fb j) → 2 ≤ H.length := by
      rintro xs H ⟨i, rfl, rfl, _⟩; exact Nat.le_refl _
    refine code_loop fine e27ok 0 (live := [0, 1, 4, 5]) (N := 26) kl27
      (fun xs H => ∃ i : Nat, xs = [.e (.s (.sl 0 15 0 n za)), .e (.s (.sl 1 15 0 m zb)), .d (.bool false), .d (.int .i64 i)] ∧ H = [.ro 15 na (miF fa), .ro 15 nb (miF fb)] ∧ i ≤ n ∧ ∀ j, j < i → fa j = fb j)
      (fun xs _ => n - ctr 3 xs) hn ?_ rfl ?_
    · intro xs H vs hI
      cases hI with | intro i hI =>
      have hxs := hI.1
      have hH := hI.2.1
      have hi := hI.2.2.1
      have hj := hI.2.2.2
      clear hI
      rw [hxs, hH]
      have e := t27b_eq fa fb na nb n za m zb i vs
      unfold t27b at e
      rw [e]
      refine ⟨fun hlt => ?_, fun hge => ?_⟩
      · have hlt : i < n := by simpa using hlt
        simp only [T.sat, Int.toNat_natCast, Nat.zero_add, if_true, mi_eq, Bool.not_eq_true', decide_eq_false_iff_not, Bool.not_eq_false', decide_eq_true_eq]
        refine ⟨by omega, by omega, by omega, by omega, fun hne => ?_, fun heq => ?_⟩
        · intro vs
          show (t27r fa fb na nb n za m zb (.int .i64 i) (.bool false) vs).sat _ _
          rw [t27r_eq]
          refine ⟨_, .inl rfl, ?_⟩
          have : sameMi n fa m fb = false := by
            rw [Bool.eq_false_iff, Ne, sameMi_iff]
            intro h
            exact hne (h.2 i hlt)
          rw [this]
        · refine .refl ⟨⟨i + 1, ?_, rfl, by omega, fun j hji => ?_⟩, ?_⟩
          · rw [wrap_succ (by omega)]
          · rcases Nat.lt_succ_iff_lt_or_eq.1 hji with hji | rfl
            · exact hj j hji
            · exact heq
          · simp only [ctr, List.getD_cons_succ, List.getD_cons_zero, asInt, Option.getD_some]
            rw [wrap_succ (by omega)]
            omega
      · have hge : n ≤ i := by simpa using hge
        intro vs
        show (t27k fa fb na nb n za m zb (.int .i64 i) false vs).sat _ _
        rw [t27k_eq]
        refine ⟨_, .inl rfl, ?_⟩
        have : sameMi n fa m fb = true := sameMi_iff.2 ⟨hnm, fun j hjn => hj j (by omega)⟩
        rw [this]
    · refine .toD (.refl ⟨0, rfl, rfl, Nat.zero_le _, fun j hj => by omega⟩)

def s27 (args : List AV) (H : Heap) : T (AV × Heap) :=
  match args with
  | [.e (.s (.sl l 15 0 n _)), .e (.s (.sl l2 15 0 m _))] => match rowOf H l, rowOf H l2, Nat.beq l l2 with
    | some (15, N, g), some (15, N2, g2), false => .need ((n ≤ N ∧ m ≤ N2 ∧ n ≤ most) ∧ MiRow N g ∧ MiRow N2 g2) (.ite (sameMi n (fun x => decMi (g x)) m (fun x => decMi (g2 x))) (.ret (.c (.bool true), H)) (.ret (.c (.bool false), H)))
    | _, _, _ => .fail
  | _ => .fail

theorem s27ok : (Ent.summ s27).ok Try.prog 27 := by
  intro args H Q hq
  unfold s27 at hq
  split at hq
  · rename_i l n z l2 m z2
    split at hq
    · rename_i N g N2 g2 h1 h2 hb
      obtain ⟨⟨⟨c1, c2, c3⟩, p1, p2⟩, hq⟩ := hq
      have hne : l ≠ l2 := by intro e; subst e; rw [Nat.beq_refl] at hb; cases hb
      unfold most at c3
      refine CallsA.bool ((CallsA.liftR (args0 := [.e (.s (.sl 0 15 0 n z)), .e (.s (.sl 1 15 0 m z2))]) (Hr := [.ro 15 N g, .ro 15 N2 g2]) [l, l2] ?_ ?_ (Q0 := fun v => v = .bool (sameMi n (fun x => decMi (g x)) m (fun x => decMi (g2 x)))) (CallsA.pre ?_)).mono ?_) hq
      · simp only [List.map_cons, List.map_nil, renFr, AV.ren, EV.ren, sl_ren (pos2a l l2), sl_ren (pos2b hne)]
      · simp only [roH, h1, h2]
      · refine Re.roG 0 (miF fun x => decMi (g x)) rfl p1 (Re.roG 1 (miF fun x => decMi (g2 x)) rfl p2 (.refl ?_))
        exact same27 (fun x => decMi (g x)) (fun x => decMi (g2 x)) N N2 n z m z2 c1 c2 (by omega)
      · rintro r H' ⟨rfl, v, rfl, rfl⟩
        exact ⟨rfl, rfl⟩
    · exact hq.elim
  · exact hq.elim

def s49 (args : List AV) (H : Heap) : T (AV × Heap) :=
  match args with
  | [.e (.s (.sl l 15 i n _))] => match H[l]? with
    | some (.row 80 15 N g) => .need (i + n ≤ N ∧ n ≤ most) (.ret (.e (.s (.sl H.length 15 0 n 0)), H ++ [.row 80 15 n (fun j => g (i + j))]))
    | _ => .fail
  | _ => .fail

theorem pos1 (l : Nat) : posOf l [some l] = some 0 := by simp [posOf]

theorem s49ok : (Ent.summ s49).ok Try.prog 49 := by
  intro args H Q hq
  unfold s49 at hq
  split at hq
  · rename_i l i n z
    split at hq
    · rename_i N g hl
      obtain ⟨⟨h1, h2⟩, hq⟩ := hq
      refine CallsA.lift (args0 := [.e (.s (.sl 0 15 i n z))]) (H0 := [.row 80 15 N g]) [l] ?_ ?_ rfl (clone49 i n z N g h1 h2) ?_ ?_
      · simp only [List.map_cons, List.map_nil, renFr, AV.ren, EV.ren, sl_ren (pos1 l)]
      · simp only [List.map_cons, List.map_nil, renH, hl, AB.ren]
      · rintro r H' ⟨rfl, rfl⟩; rfl
      · rintro r H' ⟨rfl, rfl⟩
        have e1 : (AV.e (.s (.sl 1 15 0 n 0))).by (back [l] H.length) = .e (.s (.sl H.length 15 0 n 0)) := by simp [AV.by, EV.by, SV.by, back]
        have e2 : backH [l] H [.row 80 15 N g, .row 80 15 n (fun j => g (i + j))] = H ++ [.row 80 15 n (fun j => g (i + j))] := by
          simp only [backH, backSet, AB.by, List.length_singleton, List.drop_succ_cons, List.drop_zero, List.map_cons, List.map_nil]
          congr 1
          exact List.ext_getElem? fun j => by
            rw [List.getElem?_set]
            split
            · rename_i e; subst e; rw [hl, if_pos (lt_of_get hl)]
            · rfl
        rw [e1, e2]
        exact hq
    · exact hq.elim
  · exact hq.elim

end Go.Proofs.Ythckkoledhjmeaa.Ev
