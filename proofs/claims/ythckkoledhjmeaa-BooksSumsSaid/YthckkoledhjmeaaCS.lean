/-
  What is tallied: what the functions do.
-/
import Derived.Test.YthckkoledhjmeaaCL
import Derived.Test.YthckkoledhjmeaaCN
namespace Go.Proofs.Ythckkoledhjmeaa.Ev
open Go

def niG (l : List Int) : Nat → List Value := fun j => [.int .i64 (l.getD j 0)]

theorem e45ok : EntsOk Try.prog e45 := ⟨k45, sure_ok s59ok, sure_ok s57ok, trivial⟩
theorem e46ok : EntsOk Try.prog e46 := ⟨k46, sure_ok s60ok, trivial⟩
theorem e47ok : EntsOk Try.prog e47 := ⟨k47, sure_ok s70ok, sure_ok s71ok, trivial⟩

def tHp (T : TSt) : Heap := tH T.all.length (miG T.all) T.taken T.fo.length (niG T.fo) (niG T.tt) (niG T.sz)
def tH45 (T : TSt) : Heap :=
  [.cells 60 [.sl 5 15 0 T.all.length 0, .d (.int .i64 T.taken), .sl 2 1 0 T.fo.length 0, .sl 3 1 0 T.fo.length 0, .sl 4 1 0 T.fo.length 0], .dead, .row 3 1 T.fo.length (niG T.fo), .row 3 1 T.fo.length (niG T.tt), .row 3 1 T.fo.length (niG T.sz), .row 80 15 T.all.length (miG T.all)]
def tH46 (T : TSt) : Heap :=
  [.cells 60 [.sl 1 15 0 T.all.length 0, .d (.int .i64 T.taken), .sl 5 1 0 T.fo.length 0, .sl 6 1 0 T.fo.length 0, .sl 7 1 0 T.fo.length 0], .row 80 15 T.all.length (miG T.all), .dead, .dead, .dead, .row 3 1 T.fo.length (niG T.fo), .row 3 1 T.fo.length (niG T.tt), .row 3 1 T.fo.length (niG T.sz)]

theorem app_ni (l : List Int) (x : Int) {n : Nat} {g g2 : Nat → List Value} (hn : n = l.length) (hg : ∀ j, j < l.length → g j = niG l j) (h2 : g2 0 = [.int .i64 x]) : ∀ j, j < n + 1 → appendG g 0 n g2 0 j = niG (l ++ [x]) j := by
  subst hn
  intro j hj
  simp only [appendG]
  split
  · rename_i h
    rw [Nat.zero_add, hg j h]
    show [Value.int .i64 _] = [Value.int .i64 _]
    rw [getD_snoc h]
  · have : j = l.length := by omega
    subst this
    rw [Nat.sub_self, Nat.add_zero, h2]
    show [Value.int .i64 _] = [Value.int .i64 _]
    rw [getD_snoc' rfl]

theorem idx_lastN {n : Nat} (h : 0 < n) (h2 : n < 1000000) : (0 ≤ IntKind.i64.wrap ((n : Int) - 1) ∧ IntKind.i64.wrap ((n : Int) - 1) < n) ∧ 0 + (IntKind.i64.wrap ((n : Int) - 1)).toNat = n - 1 ∧ IntKind.i64.wrap ((n : Int) - 1) = ((n - 1 : Nat) : Int) := by
  have : IntKind.i64.wrap ((n : Int) - 1) = (n : Int) - 1 := wrap64 (by unfold I64; omega)
  rw [this]
  omega

theorem wrapU_nat {n : Nat} (h : n < 1000000) : IntKind.u64.wrap (n : Int) = n := by rw [IntKind.wrap_u64]; omega

set_option maxRecDepth 100000 in
theorem ended47 (T : TSt) (hk : T.fo.length < 1000000) (j : Nat) (p : Pkt) (at' : Int) (hj : j < T.fo.length) (h1 : T.fo.getD j 0 = p.mi) (h2 : T.tt.getD j 0 = p.sent) (h3 : T.sz.getD j 0 = p.size) (h4 : 0 ≤ p.mi ∧ p.mi < T.all.length)
    (hl : loseE (T.all.getD p.mi.toNat Mi.zero) p.size = 0) (ha : 0 ≤ at' → ackE (T.all.getD p.mi.toNat Mi.zero) p.size p.sent at' = 0) :
    CallsA Try.prog 47 [.e (.s (.ptr 0 0)), .d (.int .u64 j), .e (.agg p.cells), .d (.int .i64 at')] (tHp T) fun r H' => r = .c (.bool true) ∧
      H' = tHp (endT T p (if 0 ≤ at' then ackM (T.all.getD p.mi.toNat Mi.zero) p.size p.sent at' else loseM (T.all.getD p.mi.toNat Mi.zero) p.size)) := by
  refine CallsA.re (calls_of fine e47ok 2 47 _ _ ?_)
  show (t47 T.all.length (fun j => T.all.getD j Mi.zero) T.taken T.fo.length (fun j => T.fo.getD j 0) (fun j => T.tt.getD j 0) (fun j => T.sz.getD j 0) j p at').sat _ _
  have C : 0 ≤ p.mi ∧ p.mi < (T.all.length : Int) := h4
  have D : 0 + p.mi.toNat < T.all.length := by omega
  have A : (0 : Int) ≤ j ∧ (j : Int) < (T.fo.length : Int) := by omega
  have B : 0 + (j : Int).toNat < T.fo.length := by omega
  have leaf : ∀ m : Mi, m = (if 0 ≤ at' then ackM (T.all.getD p.mi.toNat Mi.zero) p.size p.sent at' else loseM (T.all.getD p.mi.toNat Mi.zero) p.size) → Re 5 [.c (.bool true)]
      [.cells 60 [.sl 1 15 0 T.all.length 0, .d (.int .i64 T.taken), .sl 2 1 0 T.fo.length 0, .sl 3 1 0 T.fo.length 0, .sl 4 1 0 T.fo.length 0], .row 80 15 T.all.length (spliceG (miF fun j => T.all.getD j Mi.zero) p.mi.toNat 0 m.vals), .row 3 1 T.fo.length (niG T.fo), .row 3 1 T.fo.length (niG T.tt), .row 3 1 T.fo.length (niG T.sz)]
      fun fr H2 => ∃ r2, fr = [r2] ∧ r2 = .c (.bool true) ∧ H2 = tHp (endT T p (if 0 ≤ at' then ackM (T.all.getD p.mi.toNat Mi.zero) p.size p.sent at' else loseM (T.all.getD p.mi.toNat Mi.zero) p.size)) := by
    intro m hm
    rw [← hm]
    refine Re.row 1 (miG (T.all.set p.mi.toNat m)) rfl (splice_mi (by omega) m) (.refl ⟨_, rfl, rfl, ?_⟩)
    simp [tHp, tH, endT]
  rw [t47_eq, wrapU_nat hk]
  have e0 : 0 + (j : Int).toNat = j := by omega
  have e1 : 0 + p.mi.toNat = p.mi.toNat := by omega
  rw [e0, e1]
  rw [e1] at D
  rw [e0] at B
  refine ⟨fun hx => ?_, fun _ => ⟨A, B, fun hx => ?_, fun _ => ⟨A, B, fun hx => ?_, fun _ => ⟨A, B, fun hx => ?_, fun _ => ⟨C, D, ?_⟩⟩⟩⟩⟩
  · simp only [decide_eq_true_eq] at hx; omega
  · rw [h1] at hx; simp at hx
  · rw [h3] at hx; simp at hx
  · rw [h2] at hx; simp at hx
  · have hl' : (loseE (T.all.getD p.mi.toNat Mi.zero) p.size == 0) = true := by rw [hl]; rfl
    by_cases h0 : 0 ≤ at'
    · have ha' : (ackE (T.all.getD p.mi.toNat Mi.zero) p.size p.sent at' == 0) = true := by rw [ha h0]; rfl
      have lf := leaf (ackM (T.all.getD p.mi.toNat Mi.zero) p.size p.sent at') (by rw [if_pos h0])
      have no : ∀ {P : Prop}, decide (at' ≥ 0) = false → P := fun h => by simp only [decide_eq_false_iff_not] at h; omega
      exact ⟨⟨hl', fun _ => ⟨C, D, ⟨ha', C, D, lf⟩, rfl, rfl, rfl, rfl, rfl, ha', C, D, lf⟩, fun h => no h⟩, rfl, rfl, rfl, rfl, hl', fun _ => ⟨C, D, ⟨ha', C, D, lf⟩, rfl, rfl, rfl, rfl, rfl, ha', C, D, lf⟩, fun h => no h⟩
    · have lf := leaf (loseM (T.all.getD p.mi.toNat Mi.zero) p.size) (by rw [if_neg h0])
      have no : ∀ {P : Prop}, decide (at' ≥ 0) = true → P := fun h => by simp only [decide_eq_true_eq] at h; omega
      exact ⟨⟨hl', fun h => no h, fun _ => ⟨C, D, lf⟩⟩, rfl, rfl, rfl, rfl, hl', fun h => no h, fun _ => ⟨C, D, lf⟩⟩

set_option maxRecDepth 100000 in
theorem sent46 (T : TSt) (hk : T.fo.length < 900000) (h5 : T.tt.length = T.fo.length) (h6 : T.sz.length = T.fo.length) (hn : 0 < T.all.length) (hn2 : T.all.length < 1000000) (size at' : Int) (he : sndE (T.all.getD (T.all.length - 1) Mi.zero) size = 0) :
    CallsA Try.prog 46 [.e (.s (.ptr 0 0)), .d (.int .u64 T.fo.length), .d (.int .i64 size), .d (.int .i64 at')] (tHp T) fun r H' => r = .c (.bool true) ∧
      H' = tH46 ⟨T.all.set (T.all.length - 1) (sndM (T.all.getD (T.all.length - 1) Mi.zero) size), T.taken, T.fo ++ [((T.all.length - 1 : Nat) : Int)], T.tt ++ [at'], T.sz ++ [size]⟩ := by
  obtain ⟨i1, i2, i3⟩ := idx_lastN hn hn2
  refine CallsA.re (calls_of fine e46ok 2 46 _ _ ?_)
  show (t46 T.all.length (fun j => T.all.getD j Mi.zero) T.taken T.fo.length (fun j => T.fo.getD j 0) (fun j => T.tt.getD j 0) (fun j => T.sz.getD j 0) T.fo.length size at').sat _ _
  rw [t46_eq, wrapU_nat (by omega), i2]
  have M : ∀ v : Value, 0 + T.fo.length ≤ T.fo.length ∧ 1 ≤ (chunksOf 1 1 [v]).length ∧ T.fo.length + 1 ≤ most := fun v => ⟨by omega, Nat.le_refl _, by unfold most; omega⟩
  have D : T.all.length - 1 < T.all.length := by omega
  refine ⟨fun hx => ?_, fun _ => ⟨fun hx => ?_, fun _ => ⟨M _, M _, M _, i1, D, ?_, i1, D, ?_⟩⟩⟩
  · simp at hx
  · have : (T.all.length : Int) = 0 := by simpa using hx
    omega
  · show (sndE (T.all.getD (T.all.length - 1) Mi.zero) size == 0) = true
    rw [he]; rfl
  · refine Re.row 1 (miG (T.all.set (T.all.length - 1) (sndM (T.all.getD (T.all.length - 1) Mi.zero) size))) rfl (splice_mi D _)
      (Re.row 6 (niG (T.fo ++ [((T.all.length - 1 : Nat) : Int)])) rfl (app_ni T.fo _ rfl (fun _ _ => rfl) (by rw [i3]; rfl))
      (Re.row 8 (niG (T.tt ++ [at'])) rfl (app_ni T.tt _ h5.symm (fun _ _ => rfl) rfl)
      (Re.row 10 (niG (T.sz ++ [size])) rfl (app_ni T.sz _ h6.symm (fun _ _ => rfl) rfl)
      (Re.ren [some 0, some 1, none, none, none, some 6, some 8, some 10] rfl rfl rfl (.refl ⟨_, rfl, rfl, ?_⟩)))))
    simp [tH46]

set_option maxRecDepth 100000 in
theorem began45 (T : TSt) (hn : T.all.length < 900000) (id at' : Int) (hid : id = T.all.length) (hc : 0 < T.all.length → closeE (T.all.getD (T.all.length - 1) Mi.zero) at' = 0) (ho : openE id at' = 0) :
    CallsA Try.prog 45 [.e (.s (.ptr 0 0)), .d (.int .i64 id), .d (.int .i64 at')] (tHp T) fun r H' => r = .c (.bool true) ∧
      H' = tH45 ⟨T.all.set (T.all.length - 1) (closeM (T.all.getD (T.all.length - 1) Mi.zero) at') ++ [openM id at'], T.taken, T.fo, T.tt, T.sz⟩ := by
  refine CallsA.re (calls_of fine e45ok 2 45 _ _ ?_)
  show (t45 T.all.length (fun j => T.all.getD j Mi.zero) T.taken T.fo.length (fun j => T.fo.getD j 0) (fun j => T.tt.getD j 0) (fun j => T.sz.getD j 0) id at').sat _ _
  rw [t45_eq]
  have ho' : (openE id at' == 0) = true := by rw [ho]; rfl
  refine ⟨fun hx => ?_, fun _ => ⟨fun c => ?_, fun c => ?_⟩⟩
  · rw [hid] at hx; simp at hx
  · have hn0 : 0 < T.all.length := by simp only [decide_eq_true_eq] at c; omega
    obtain ⟨i1, i2, i3⟩ := idx_lastN hn0 (by omega)
    have D : T.all.length - 1 < T.all.length := by omega
    have hw : IntKind.i64.wrap (id - 1) = IntKind.i64.wrap ((T.all.length : Int) - 1) := by rw [hid]
    rw [hw, i2]
    refine ⟨i1, D, ?_, i1, D, ho', rfl, ⟨by omega, Nat.le_refl _, by unfold most; omega⟩, ?_⟩
    · show (closeE (T.all.getD (T.all.length - 1) Mi.zero) at' == 0) = true
      rw [hc hn0]; rfl
    · refine Re.row 8 (miG (T.all.set (T.all.length - 1) (closeM (T.all.getD (T.all.length - 1) Mi.zero) at') ++ [openM id at'])) rfl
        (app_mi _ _ (by rw [List.length_set]) (fun j hj => ?_) rfl) (Re.ren [some 0, none, some 2, some 3, some 4, some 8] rfl rfl rfl (.refl ⟨_, rfl, rfl, ?_⟩))
      · rw [List.length_set] at hj
        exact splice_mi D _ j hj
      · simp [tH45]
        exact ⟨rfl, rfl, rfl⟩
  · have hn0 : T.all = [] := by
      simp only [decide_eq_false_iff_not] at c
      exact List.eq_nil_of_length_eq_zero (by omega)
    refine ⟨ho', rfl, ⟨by omega, Nat.le_refl _, by unfold most; omega⟩, ?_⟩
    refine Re.row 7 (miG (T.all ++ [openM id at'])) rfl (app_mi _ _ rfl (fun j hj => rfl) rfl) (Re.ren [some 0, none, some 2, some 3, some 4, some 7] rfl rfl rfl (.refl ⟨_, rfl, rfl, ?_⟩))
    rw [hn0]
    simp [tH45]
    exact ⟨rfl, rfl, rfl⟩

end Go.Proofs.Ythckkoledhjmeaa.Ev
