/-
  Rows of accounts are compared, the second one from a place on: what comes of it; a summary.
-/
import Derived.Test.YthckkoledhjmeaaCM
namespace Go.Proofs.Ythckkoledhjmeaa.Ev
open Go

set_option maxRecDepth 100000 in
theorem same27o (fa fb : Nat → Mi) (na nb n za ib m zb : Nat) (h1 : n ≤ na) (h2 : ib + m ≤ nb) (hb : n < 9223372036854775807) :
    CallsA Try.prog 27 [.e (.s (.sl 0 15 0 n za)), .e (.s (.sl 1 15 ib m zb))] [.ro 15 na (miF fa), .ro 15 nb (miF fb)] fun r _ =>
      ∃ v, (r = .c v ∨ r = .d v) ∧ v = .bool (sameMi n fa m fun x => fb (ib + x)) := by
  refine calls_of fine e27ok 1 27 _ _ ?_
  show (u27 fa fb na nb n za ib m zb).sat _ _
  rw [u27_eq]
  refine ⟨fun h => ⟨_, .inl rfl, ?_⟩, fun h => ?_⟩
  · have hne : n ≠ m := by intro e; subst e; simp at h
    have : sameMi n fa m (fun x => fb (ib + x)) = false := by
      rw [Bool.eq_false_iff, Ne, sameMi_iff]
      exact fun h => hne h.1
    rw [this]
  · have hnm : n = m := by simp at h; omega
    have hn : ∀ (xs : List AV) (H : Heap), (∃ i : Nat, xs = [.e (.s (.sl 0 15 0 n za)), .e (.s (.sl 1 15 ib m zb)), .d (.bool false), .d (.int .i64 i)] ∧ H = [.ro 15 na (miF fa), .ro 15 nb (miF fb)] ∧ i ≤ n ∧ ∀ j, j < i → fa j = fb (ib + j)) → 2 ≤ H.length := by
      rintro xs H ⟨i, rfl, rfl, _⟩; exact Nat.le_refl _
    refine code_loop fine e27ok 0 (live := [0, 1, 4, 5]) (N := 26) kl27
      (fun xs H => ∃ i : Nat, xs = [.e (.s (.sl 0 15 0 n za)), .e (.s (.sl 1 15 ib m zb)), .d (.bool false), .d (.int .i64 i)] ∧ H = [.ro 15 na (miF fa), .ro 15 nb (miF fb)] ∧ i ≤ n ∧ ∀ j, j < i → fa j = fb (ib + j))
      (fun xs _ => n - ctr 3 xs) hn ?_ rfl ?_
    · intro xs H vs hI
      cases hI with | intro i hI =>
      have hxs := hI.1
      have hH := hI.2.1
      have hi := hI.2.2.1
      have hj := hI.2.2.2
      clear hI
      rw [hxs, hH]
      have e := u27b_eq fa fb na nb n za ib m zb i vs
      unfold u27b at e
      rw [e]
      refine ⟨fun hlt => ?_, fun hge => ?_⟩
      · have hlt : i < n := by simpa using hlt
        simp only [T.sat, Int.toNat_natCast, Nat.zero_add, if_true, mi_eq, Bool.not_eq_true', decide_eq_false_iff_not, Bool.not_eq_false', decide_eq_true_eq]
        refine ⟨by omega, by omega, by omega, by omega, fun hne => ?_, fun heq => ?_⟩
        · intro vs
          show (u27r fa fb na nb n za ib m zb (.int .i64 i) (.bool false) vs).sat _ _
          rw [u27r_eq]
          refine ⟨_, .inl rfl, ?_⟩
          have : sameMi n fa m (fun x => fb (ib + x)) = false := by
            rw [Bool.eq_false_iff, Ne, sameMi_iff]
            intro h
            exact hne (h.2 i hlt)
          rw [this]
        · refine .refl ⟨⟨i + 1, ?_, rfl, by omega, fun j hji => ?_⟩, ?_⟩
          · rw [wrap_succ (by omega)]
          · rcases Nat.lt_succ_iff_lt_or_eq.1 hji with hji | rfl
            · exact hj j hji
            · exact heq
          · simp only [ctr, List.getD_cons_succ, List.getD_cons_zero, asInt, Option.getD_some]
            rw [wrap_succ (by omega)]
            omega
      · have hge : n ≤ i := by simpa using hge
        intro vs
        show (u27k fa fb na nb n za ib m zb (.int .i64 i) false vs).sat _ _
        rw [u27k_eq]
        refine ⟨_, .inl rfl, ?_⟩
        have : sameMi n fa m (fun x => fb (ib + x)) = true := sameMi_iff.2 ⟨hnm, fun j hjn => hj j (by omega)⟩
        rw [this]
    · refine .toD (.refl ⟨0, rfl, rfl, Nat.zero_le _, fun j hj => by omega⟩)

def u27s (args : List AV) (H : Heap) : T (AV × Heap) :=
  match args with
  | [.e (.s (.sl l 15 0 n _)), .e (.s (.sl l2 15 i m _))] => match rowOf H l, rowOf H l2, Nat.beq l l2 with
    | some (15, N, g), some (15, N2, g2), false => .need ((n ≤ N ∧ i + m ≤ N2 ∧ n ≤ most) ∧ MiRow N g ∧ MiRow N2 g2) (.ite (sameMi n (fun x => decMi (g x)) m (fun x => decMi (g2 (i + x)))) (.ret (.c (.bool true), H)) (.ret (.c (.bool false), H)))
    | _, _, _ => .fail
  | _ => .fail

theorem u27ok : (Ent.summ u27s).ok Try.prog 27 := by
  intro args H Q hq
  unfold u27s at hq
  split at hq
  · rename_i l n z l2 i m z2
    split at hq
    · rename_i N g N2 g2 h1 h2 hb
      obtain ⟨⟨⟨c1, c2, c3⟩, p1, p2⟩, hq⟩ := hq
      have hne : l ≠ l2 := by intro e; subst e; rw [Nat.beq_refl] at hb; cases hb
      unfold most at c3
      refine CallsA.bool ((CallsA.liftR (args0 := [.e (.s (.sl 0 15 0 n z)), .e (.s (.sl 1 15 i m z2))]) (Hr := [.ro 15 N g, .ro 15 N2 g2]) [l, l2] ?_ ?_ (Q0 := fun v => v = .bool (sameMi n (fun x => decMi (g x)) m (fun x => decMi (g2 (i + x))))) (CallsA.pre ?_)).mono ?_) hq
      · simp only [List.map_cons, List.map_nil, renFr, AV.ren, EV.ren, sl_ren (pos2a l l2), sl_ren (pos2b hne)]
      · simp only [roH, h1, h2]
      · refine Re.roG 0 (miF fun x => decMi (g x)) rfl p1 (Re.roG 1 (miF fun x => decMi (g2 x)) rfl p2 (.refl ?_))
        exact same27o (fun x => decMi (g x)) (fun x => decMi (g2 x)) N N2 n z i m z2 c1 c2 (by omega)
      · rintro r H' ⟨rfl, v, rfl, rfl⟩
        exact ⟨rfl, rfl⟩
    · exact hq.elim
  · exact hq.elim

end Go.Proofs.Ythckkoledhjmeaa.Ev
