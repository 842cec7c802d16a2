/-
  What two rows of packets are compared by.
-/
import Derived.Test.YthckkoledhjmeaaTA
namespace Go.Proofs.Ythckkoledhjmeaa.Ev
open Go

theorem e16ok : EntsOk Try.prog e16 := ⟨k16, trivial⟩

theorem wrap_nat {i : Nat} (h : i < 9223372036854775808) : IntKind.i64.wrap (i : Int) = i := by rw [IntKind.wrap_i64]; omega

theorem wrap_succ {i : Nat} (h : i + 1 < 9223372036854775808) : IntKind.i64.wrap ((i : Int) + 1) = ((i + 1 : Nat) : Int) := by rw [IntKind.wrap_i64]; omega

/-- How far a counter is. -/
def ctr (p : Nat) (xs : List AV) : Nat := ((asInt (xs.getD p undefA)).getD 0).toNat

theorem same16 (fa fb : Nat → Pkt) (na nb ia n za ib m zb : Nat) (h1 : ia + n ≤ na) (h2 : ib + m ≤ nb) (hb : n < 9223372036854775807) :
    CallsA Try.prog 16 [.e (.s (.sl 0 4 ia n za)), .e (.s (.sl 1 4 ib m zb))] [.ro 4 na (pkF fa), .ro 4 nb (pkF fb)] fun r _ =>
      ∃ v, (r = .c v ∨ r = .d v) ∧ v = .bool (samePk n (fun j => fa (ia + j)) m (fun j => fb (ib + j))) := by
  refine calls_of fine e16ok 1 16 _ _ ?_
  show (t16 fa fb na nb ia n za ib m zb).sat _ _
  rw [t16_eq]
  refine ⟨fun h => ⟨_, .inl rfl, ?_⟩, fun h => ?_⟩
  · have hne : n ≠ m := by intro e; subst e; simp at h
    have : samePk n (fun j => fa (ia + j)) m (fun j => fb (ib + j)) = false := by
      rw [Bool.eq_false_iff, Ne, samePk_iff]
      exact fun h => hne h.1
    rw [this]
  · have hnm : n = m := by simp at h; omega
    refine code_loop fine e16ok 0 (live := [0, 1, 4, 5]) (N := 26) kl16
      (fun xs H => ∃ i : Nat, xs = [.e (.s (.sl 0 4 ia n za)), .e (.s (.sl 1 4 ib m zb)), .d (.bool false), .d (.int .i64 i)] ∧ H = [.ro 4 na (pkF fa), .ro 4 nb (pkF fb)] ∧ i ≤ n ∧ ∀ j, j < i → fa (ia + j) = fb (ib + j))
      (fun xs _ => n - ctr 3 xs) ?_ ?_ rfl ?_
    · rintro xs H ⟨i, rfl, rfl, _⟩; exact Nat.le_refl _
    · intro xs H vs hI
      cases hI with | intro i hI =>
      have hxs := hI.1
      have hH := hI.2.1
      have hi := hI.2.2.1
      have hj := hI.2.2.2
      clear hI
      rw [hxs, hH]
      have e := t16b_eq fa fb na nb ia n za ib m zb i vs
      unfold t16b at e
      rw [e]
      refine ⟨fun hlt => ?_, fun hge => ?_⟩
      · have hlt : i < n := by simpa using hlt
        refine ⟨by omega, by omega, by omega, by omega, fun hne => ?_, fun heq => ?_⟩
        · intro vs
          show (t16r fa fb na nb ia n za ib m zb (.int .i64 i) (.bool false) vs).sat _ _
          rw [t16r_eq]
          refine ⟨_, .inl rfl, ?_⟩
          have : samePk n (fun j => fa (ia + j)) m (fun j => fb (ib + j)) = false := by
            rw [Bool.eq_false_iff, Ne, samePk_iff]
            intro h
            have := h.2 i hlt
            simp only [Int.toNat_natCast] at hne
            rw [this] at hne
            simp at hne
          rw [this]
        · refine .refl ⟨⟨i + 1, ?_, rfl, by omega, fun j hji => ?_⟩, ?_⟩
          · rw [wrap_succ (by omega)]
          · rcases Nat.lt_succ_iff_lt_or_eq.1 hji with hji | rfl
            · exact hj j hji
            · simp only [Int.toNat_natCast, if_true, Bool.not_eq_false', Bool.and_eq_true, beq_iff_eq, Bool.and_true] at heq
              obtain ⟨e1, e2, e3, e4⟩ := heq
              cases ha : fa (ia + j) with | mk a b c d => cases hb : fb (ib + j) with | mk a' b' c' d' => simp_all
          · simp only [ctr, List.getD_cons_succ, List.getD_cons_zero, asInt, Option.getD_some]
            rw [wrap_succ (by omega)]
            omega
      · have hge : n ≤ i := by simpa using hge
        intro vs
        show (t16k fa fb na nb ia n za ib m zb (.int .i64 i) false vs).sat _ _
        rw [t16k_eq]
        refine ⟨_, .inl rfl, ?_⟩
        have : samePk n (fun j => fa (ia + j)) m (fun j => fb (ib + j)) = true := samePk_iff.2 ⟨hnm, fun j hjn => hj j (by omega)⟩
        rw [this]
    · refine .toD (.refl ⟨0, rfl, rfl, Nat.zero_le _, fun j hj => by omega⟩)

end Go.Proofs.Ythckkoledhjmeaa.Ev
