/-
  Accounts in plain words: what a right one is.
-/
import Derived.Test.YthckkoledhjmeaaBA
namespace Go.Proofs.Ythckkoledhjmeaa.Ev
open Go

def Mi.TimP (m : Mi) : Prop := 0 ≤ m.id ∧ 0 ≤ m.frm ∧ m.frm ≤ 1099511627776 ∧ (m.to = -1 ∨ 0 ≤ m.to ∧ m.to ≤ 1099511627776 ∧ m.frm ≤ m.to)
def Mi.CntP (m : Mi) : Prop := 0 ≤ m.packets ∧ m.packets ≤ 1048576 ∧ 0 ≤ m.hits ∧ m.hits ≤ m.packets ∧ 0 ≤ m.drops ∧ m.drops ≤ m.packets - m.hits
def Mi.BytP (m : Mi) : Prop := m.packets ≤ m.sent ∧ m.sent ≤ m.packets * 9000 ∧ m.hits ≤ m.acked ∧ m.acked ≤ m.hits * 9000 ∧ m.drops ≤ m.lost ∧ m.lost ≤ m.drops * 9000 ∧ m.acked + m.lost ≤ m.sent ∧ (m.acked + m.lost = m.sent ↔ m.hits + m.drops = m.packets)
def Mi.NumP (m : Mi) : Prop := 0 ≤ m.n ∧ m.n ≤ 1024 ∧ m.n ≤ m.hits
def Mi.SumP (m : Mi) : Prop := 0 ≤ m.sumT ∧ m.sumT ≤ m.n * 60000000 ∧ 0 ≤ m.sumR ∧ m.sumR ≤ m.n * 60000000 ∧ 0 ≤ m.sumTT ∧ m.sumTT ≤ m.n * 3600000000000000 ∧ 0 ≤ m.sumTR ∧ m.sumTR ≤ m.n * 3600000000000000 ∧ 0 ≤ m.sumRR ∧ m.sumRR ≤ m.n * 3600000000000000
def Mi.Is (m : Mi) : Prop := m.TimP ∧ m.CntP ∧ m.BytP ∧ m.NumP ∧ m.SumP

instance (m : Mi) : Decidable m.TimP := by unfold Mi.TimP; infer_instance
instance (m : Mi) : Decidable m.CntP := by unfold Mi.CntP; infer_instance
instance (m : Mi) : Decidable m.BytP := by unfold Mi.BytP; infer_instance
instance (m : Mi) : Decidable m.NumP := by unfold Mi.NumP; infer_instance
instance (m : Mi) : Decidable m.SumP := by unfold Mi.SumP; infer_instance
instance (m : Mi) : Decidable m.Is := by unfold Mi.Is; infer_instance

/-! ### Cells that hold numbers of 64 bits -/

def n64 (x : SV) : Option Int := match x.num with | some (.i64, n) => some n | _ => none

def nums64 : List SV → Option (List Int)
  | [] => some []
  | x :: xs => match n64 x, nums64 xs with
    | some n, some l => some (n :: l)
    | _, _ => none

def mi15 (cs : List SV) : Option Mi :=
  match nums64 cs with
  | some [a, b, c, d, e, f, g, h, i, j, k, l, m, n, o] => some ⟨a, b, c, d, e, f, g, h, i, j, k, l, m, n, o⟩
  | _ => none

theorem nums64_facts : ∀ {cs : List SV} {l : List Int}, nums64 cs = some l → (∀ ms, renCells ms cs = some cs) ∧ cs.map SV.toD = l.map (fun n => SV.d (.int .i64 n)) ∧ ∀ f, cs.map (SV.by f) = cs
  | [], l, h => by cases h; exact ⟨fun _ => rfl, rfl, fun _ => rfl⟩
  | x :: xs, l, h => by
    simp only [nums64] at h
    split at h
    · rename_i n l' hn hl
      cases h
      unfold n64 at hn
      split at hn
      · rename_i n' hx
        cases hn
        obtain ⟨h1, h2, h3⟩ := num_facts hx
        obtain ⟨g1, g2, g3⟩ := nums64_facts hl
        exact ⟨fun ms => by simp only [renCells, h1, g1], by simp only [List.map_cons, h2, g2], fun f => by simp only [List.map_cons, h3, g3]⟩
      · cases hn
    · cases h

theorem mi15_facts {cs : List SV} {m : Mi} (h : mi15 cs = some m) : (∀ ms, renCells ms cs = some cs) ∧ cs.map SV.toD = m.cells ∧ ∀ f, cs.map (SV.by f) = cs := by
  unfold mi15 at h
  split at h
  · rename_i hl
    cases h
    obtain ⟨h1, h2, h3⟩ := nums64_facts hl
    exact ⟨h1, h2, h3⟩
  · cases h

theorem mi_by (m : Mi) (f : Nat → Nat) : (AV.e (.agg m.cells)).by f = .e (.agg m.cells) := rfl

/-- What hands back a bool of an account, by its tree. -/
theorem mi_bool {f : Nat} {l : List (Nat × Ent)} (hl : EntsOk Try.prog l) (d : Nat) (m : Mi) (b : Bool) (h : (callT Try.prog (entL l) d f [.e (.agg m.cells)] [] fun r H' => .ret (r, H')).sat Try.prog fun x => x = (.c (.bool b), [])) :
    CallsA Try.prog f [.e (.agg m.cells)] [] fun r H' => r = .d (.bool b) ∧ H' = [] := by
  refine (calls_of fine hl d f _ _ (Q := fun r H' => r = .c (.bool b) ∧ H' = []) (T.sat_mono (fun x hx => ?_) h)).out ?_
  · subst hx; exact ⟨rfl, rfl⟩
  · rintro r H' ⟨rfl, rfl⟩
    exact ⟨.d (.bool b), fun _ => rfl, Nat.le_refl _, fun _ _ => ok_s.2 trivial, rfl, rfl⟩

theorem leafB {b c : Bool} (h : c = b) : ((AV.c (.bool b), []) : AV × Heap) = (.c (.bool c), []) := by rw [h]

theorem k90 : okFn Try.prog 90 oN = true := by kernel_rfl
theorem k91 : okFn Try.prog 91 oN = true := by kernel_rfl
theorem k92 : okFn Try.prog 92 oN = true := by kernel_rfl
theorem k93 : okFn Try.prog 93 oN = true := by kernel_rfl
theorem k94 : okFn Try.prog 94 o94 = true := by kernel_rfl
theorem k95 : okFn Try.prog 95 oN = true := by kernel_rfl
theorem k106 : okFn Try.prog 106 oN = true := by kernel_rfl
theorem k107 : okFn Try.prog 107 oN = true := by kernel_rfl
theorem k108 : okFn Try.prog 108 oN = true := by kernel_rfl
theorem k109 : okFn Try.prog 109 oN = true := by kernel_rfl

theorem e93ok : EntsOk Try.prog e93 := ⟨k93, trivial⟩
theorem e94ok : EntsOk Try.prog e94 := ⟨k94, k108, k66, trivial⟩
theorem e95ok : EntsOk Try.prog e95 := ⟨k95, k109, trivial⟩
theorem e107ok : EntsOk Try.prog e107 := ⟨k107, trivial⟩

theorem cnt93 (m : Mi) : CallsA Try.prog 93 [.e (.agg m.cells)] [] fun r H' => r = .d (.bool (decide m.CntP)) ∧ H' = [] := by
  refine mi_bool e93ok 1 m _ ?_
  show (t93 m).sat _ _
  rw [t93_eq]
  repeat' first
    | (refine And.intro (a := _ → _) ?_ ?_ <;> intro _)
  all_goals
    simp only [decide_eq_true_eq, decide_eq_false_iff_not, IntKind.wrap_i64] at *
    refine leafB ?_
    first
      | exact decide_eq_true (by unfold Mi.CntP; omega)
      | exact decide_eq_false (by unfold Mi.CntP; omega)

theorem byt94 (m : Mi) (h : m.CntP) : CallsA Try.prog 94 [.e (.agg m.cells)] [] fun r H' => r = .d (.bool (decide m.BytP)) ∧ H' = [] := by
  refine mi_bool e94ok 2 m _ ?_
  show (t94 m).sat _ _
  rw [t94_eq]
  unfold Mi.CntP at h
  have w1 : IntKind.i64.wrap (m.packets * 9000) = m.packets * 9000 := wrap64 (by unfold I64; omega)
  have w2 : IntKind.i64.wrap (m.hits * 9000) = m.hits * 9000 := wrap64 (by unfold I64; omega)
  have w3 : IntKind.i64.wrap (m.drops * 9000) = m.drops * 9000 := wrap64 (by unfold I64; omega)
  have w4 : IntKind.i64.wrap (m.hits + m.drops) = m.hits + m.drops := wrap64 (by unfold I64; omega)
  rw [w1, w2, w3, w4]
  repeat' first
    | (refine And.intro (a := _ → _) ?_ ?_ <;> intro _)
    | refine And.intro rfl ?_
  all_goals
    simp only [decide_eq_true_eq, decide_eq_false_iff_not, IntKind.wrap_i64, beq_iff_eq, beq_eq_false_iff_ne, ne_eq] at *
    refine leafB ?_
    first
      | exact decide_eq_true (by unfold Mi.BytP; omega)
      | exact decide_eq_false (by unfold Mi.BytP; omega)

theorem smp95 (m : Mi) : CallsA Try.prog 95 [.e (.agg m.cells)] [] fun r H' => r = .d (.bool (decide (m.NumP ∧ m.SumP))) ∧ H' = [] := by
  refine mi_bool e95ok 2 m _ ?_
  show (t95 m).sat _ _
  rw [t95_eq]
  by_cases hn : 0 ≤ m.n ∧ m.n ≤ 1024
  · have w1 : IntKind.i64.wrap (m.n * 60000000) = m.n * 60000000 := wrap64 (by unfold I64; omega)
    have w2 : IntKind.i64.wrap (m.n * 3600000000000000) = m.n * 3600000000000000 := wrap64 (by unfold I64; omega)
    rw [w1, w2]
    repeat' first
      | refine And.intro (fun h => absurd h (by decide)) fun _ => ?_
      | refine And.intro (fun _ => ?_) fun h => absurd h (by decide)
      | (refine And.intro (a := _ → _) ?_ ?_ <;> intro _)
      | refine And.intro (by decide) ?_
      | refine And.intro (by simp [chunksOf]) ?_
    all_goals
      simp only [decide_eq_true_eq, decide_eq_false_iff_not] at *
      refine leafB ?_
      first
        | exact decide_eq_true (by unfold Mi.NumP Mi.SumP; omega)
        | exact decide_eq_false (by unfold Mi.NumP Mi.SumP; omega)
  · refine ⟨fun _ => leafB (decide_eq_false (by unfold Mi.NumP; omega)), fun h1 => ⟨fun _ => leafB (decide_eq_false (by unfold Mi.NumP; omega)), fun h2 => ?_⟩⟩
    simp only [decide_eq_false_iff_not] at h1 h2
    omega

theorem sum107 (m : Mi) (hn : 0 ≤ m.n ∧ m.n ≤ 1024) : CallsA Try.prog 107 [.e (.agg m.cells)] [] fun r H' => r = .d (.bool (decide m.SumP)) ∧ H' = [] := by
  refine mi_bool e107ok 2 m _ ?_
  show (t107 m).sat _ _
  rw [t107_eq]
  have w1 : IntKind.i64.wrap (m.n * 60000000) = m.n * 60000000 := wrap64 (by unfold I64; omega)
  have w2 : IntKind.i64.wrap (m.n * 60000000 * 60000000) = m.n * 3600000000000000 := by rw [wrap64 (by unfold I64; omega)]; omega
  rw [w1, w2]
  repeat' first
    | (refine And.intro (a := _ → _) ?_ ?_ <;> intro _)
  all_goals
    simp only [decide_eq_true_eq, decide_eq_false_iff_not] at *
    refine leafB ?_
    first
      | exact decide_eq_true (by unfold Mi.SumP; omega)
      | exact decide_eq_false (by unfold Mi.SumP; omega)

/-! ### Summaries of them -/

/-- A bool of an account. -/
def sB (p : Mi → Prop) (b : Mi → Bool) (args : List AV) (H : Heap) : T (AV × Heap) :=
  match args with
  | [.e (.agg cs)] => match mi15 cs with
    | some m => .need (p m) (.ite (b m) (.ret (.c (.bool true), H)) (.ret (.c (.bool false), H)))
    | none => .fail
  | _ => .fail

theorem sB_ok {f : Nat} {p : Mi → Prop} {b : Mi → Bool} (h : ∀ m, p m → CallsA Try.prog f [.e (.agg m.cells)] [] fun r H' => r = .d (.bool (b m)) ∧ H' = []) : (Ent.summ (sB p b)).ok Try.prog f := by
  intro args H Q hq
  unfold sB at hq
  split at hq
  · rename_i cs
    split at hq
    · rename_i m hm
      obtain ⟨hp, hq⟩ := hq
      obtain ⟨m1, m2, m3⟩ := mi15_facts hm
      refine CallsA.bool (b := b m) (CallsA.pure (args0 := [.e (.agg m.cells)]) ?_ ?_ (fun _ => rfl) (h m hp) ⟨rfl, rfl⟩) hq
      · simp only [renFr, agg_ren _ (m1 _)]
      · simp only [List.map_cons, List.map_nil, agg_toD, m2]
    · exact hq.elim
  · exact hq.elim

def s93 : List AV → Heap → T (AV × Heap) := sB (fun _ => True) fun m => decide m.CntP
def s94 : List AV → Heap → T (AV × Heap) := sB Mi.CntP fun m => decide m.BytP
def s95 : List AV → Heap → T (AV × Heap) := sB (fun _ => True) fun m => decide (m.NumP ∧ m.SumP)
def s107 : List AV → Heap → T (AV × Heap) := sB (fun m => 0 ≤ m.n ∧ m.n ≤ 1024) fun m => decide m.SumP
def sIs : List AV → Heap → T (AV × Heap) := sB (fun _ => True) fun m => decide m.Is

theorem s93ok : (Ent.summ s93).ok Try.prog 93 := sB_ok fun m _ => cnt93 m
theorem s94ok : (Ent.summ s94).ok Try.prog 94 := sB_ok byt94
theorem s95ok : (Ent.summ s95).ok Try.prog 95 := sB_ok fun m _ => smp95 m
theorem s107ok : (Ent.summ s107).ok Try.prog 107 := sB_ok sum107

end Go.Proofs.Ythckkoledhjmeaa.Ev
