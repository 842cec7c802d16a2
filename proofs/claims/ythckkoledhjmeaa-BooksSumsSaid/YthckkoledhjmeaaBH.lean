/-
  Summaries of what is done with accounts.
-/
import Derived.Test.YthckkoledhjmeaaBG
namespace Go.Proofs.Ythckkoledhjmeaa.Ev
open Go

/-- What comes of an account, in both ways. -/
def accT (m : Mi) (e : Int) (H : Heap) : T (AV × Heap) :=
  .ite (e == 0) (.ret (.tup [.agg m.cells, .s (.c (.int .i64 0))], H)) (.ret (.tup [.agg Mi.zero.cells, .s (.d (.int .i64 e))], H))

theorem acc_ok {E : Env} (m : Mi) {y : SV} (hy : y.ok E) : (AV.tup [.agg m.cells, .s y]).ok E := by
  intro x hx
  simp only [AV.svs, List.flatMap_cons, List.flatMap_nil, EV.svs, Mi.cells, List.mem_append, List.mem_cons, List.not_mem_nil, or_false, List.append_nil] at hx
  rcases hx with (rfl | rfl | rfl | rfl | rfl | rfl | rfl | rfl | rfl | rfl | rfl | rfl | rfl | rfl | rfl) | rfl
  all_goals first | trivial | exact hy

theorem CallsA.acc {P : Program} {f : Nat} {args : List AV} {H : Heap} {m : Mi} {e : Int} {Q : AV × Heap → Prop} (h : CallsA P f args H fun r H' => H' = H ∧ r = accV m e) (hq : (accT m e H).sat P Q) : CallsA P f args H fun r H' => Q (r, H') := by
  refine h.out ?_
  rintro r H' ⟨rfl, rfl⟩
  cases he : (e == 0) with
  | true =>
    have h0 : e = 0 := by simpa using he
    refine ⟨.tup [.agg m.cells, .s (.c (.int .i64 0))], fun E => by rw [accV_zero h0]; rfl, by rw [accV_zero h0]; exact Nat.le_refl _, fun E _ => acc_ok m trivial, hq.1 he⟩
  | false =>
    have h0 : e ≠ 0 := by simpa using he
    refine ⟨.tup [.agg Mi.zero.cells, .s (.d (.int .i64 e))], fun E => by rw [accV, if_neg h0]; rfl, by rw [accV, if_neg h0]; exact Nat.le_refl _, fun E _ => acc_ok Mi.zero trivial, hq.2 he⟩

def sA0 (g : Int → Int → Mi) (e : Int → Int → Int) (args : List AV) (H : Heap) : T (AV × Heap) :=
  match args with
  | [a, b] => match numA a, numA b with
    | some (.i64, x), some (.i64, y) => accT (g x y) (e x y) H
    | _, _ => .fail
  | _ => .fail

def sA1 (g : Mi → Int → Mi) (e : Mi → Int → Int) (args : List AV) (H : Heap) : T (AV × Heap) :=
  match args with
  | [.e (.agg cs), a] => match mi15 cs, numA a with
    | some m, some (.i64, x) => accT (g m x) (e m x) H
    | _, _ => .fail
  | _ => .fail

def sA3 (g : Mi → Int → Int → Int → Mi) (e : Mi → Int → Int → Int → Int) (args : List AV) (H : Heap) : T (AV × Heap) :=
  match args with
  | [.e (.agg cs), a, b, c] => match mi15 cs, numA a, numA b, numA c with
    | some m, some (.i64, x), some (.i64, y), some (.i64, z) => accT (g m x y z) (e m x y z) H
    | _, _, _, _ => .fail
  | _ => .fail

theorem accV_by (m : Mi) (e : Int) (f : Nat → Nat) : (accV m e).by f = accV m e := by
  unfold accV accR
  split <;> rfl

theorem sA0_ok {f : Nat} {g : Int → Int → Mi} {e : Int → Int → Int} (h : ∀ x y, CallsA Try.prog f [.d (.int .i64 x), .d (.int .i64 y)] [] fun r H' => r = accV (g x y) (e x y) ∧ H' = []) : (Ent.summ (sA0 g e)).ok Try.prog f := by
  intro args H Q hq
  unfold sA0 at hq
  split at hq
  · rename_i a b
    split at hq
    · rename_i x y ha hb
      obtain ⟨a1, a2⟩ := numA_facts ha
      obtain ⟨b1, b2⟩ := numA_facts hb
      refine CallsA.acc (CallsA.pure (args0 := [.d (.int .i64 x), .d (.int .i64 y)]) ?_ ?_ (accV_by _ _) (h x y) ⟨rfl, rfl⟩) hq
      · simp only [renFr, a1, b1]
      · simp only [List.map_cons, List.map_nil, a2, b2]
    · exact hq.elim
  · exact hq.elim

theorem sA1_ok {f : Nat} {g : Mi → Int → Mi} {e : Mi → Int → Int} (h : ∀ m x, CallsA Try.prog f [.e (.agg m.cells), .d (.int .i64 x)] [] fun r H' => r = accV (g m x) (e m x) ∧ H' = []) : (Ent.summ (sA1 g e)).ok Try.prog f := by
  intro args H Q hq
  unfold sA1 at hq
  split at hq
  · rename_i cs a
    split at hq
    · rename_i m x hm ha
      obtain ⟨m1, m2, _⟩ := mi15_facts hm
      obtain ⟨a1, a2⟩ := numA_facts ha
      refine CallsA.acc (CallsA.pure (args0 := [.e (.agg m.cells), .d (.int .i64 x)]) ?_ ?_ (accV_by _ _) (h m x) ⟨rfl, rfl⟩) hq
      · simp only [renFr, a1, agg_ren _ (m1 _)]
      · simp only [List.map_cons, List.map_nil, agg_toD, m2, a2]
    · exact hq.elim
  · exact hq.elim

theorem sA3_ok {f : Nat} {g : Mi → Int → Int → Int → Mi} {e : Mi → Int → Int → Int → Int} (h : ∀ m x y z, CallsA Try.prog f [.e (.agg m.cells), .d (.int .i64 x), .d (.int .i64 y), .d (.int .i64 z)] [] fun r H' => r = accV (g m x y z) (e m x y z) ∧ H' = []) : (Ent.summ (sA3 g e)).ok Try.prog f := by
  intro args H Q hq
  unfold sA3 at hq
  split at hq
  · rename_i cs a b c
    split at hq
    · rename_i m x y z hm ha hb hc
      obtain ⟨m1, m2, _⟩ := mi15_facts hm
      obtain ⟨a1, a2⟩ := numA_facts ha
      obtain ⟨b1, b2⟩ := numA_facts hb
      obtain ⟨c1, c2⟩ := numA_facts hc
      refine CallsA.acc (CallsA.pure (args0 := [.e (.agg m.cells), .d (.int .i64 x), .d (.int .i64 y), .d (.int .i64 z)]) ?_ ?_ (accV_by _ _) (h m x y z) ⟨rfl, rfl⟩) hq
      · simp only [renFr, a1, b1, c1, agg_ren _ (m1 _)]
      · simp only [List.map_cons, List.map_nil, agg_toD, m2, a2, b2, c2]
    · exact hq.elim
  · exact hq.elim

def sOpen : List AV → Heap → T (AV × Heap) := sA0 openM openE
def sClose : List AV → Heap → T (AV × Heap) := sA1 closeM closeE
def sSnd : List AV → Heap → T (AV × Heap) := sA1 sndM sndE
def sLose : List AV → Heap → T (AV × Heap) := sA1 loseM loseE
def sAck : List AV → Heap → T (AV × Heap) := sA3 ackM ackE
def sDone : List AV → Heap → T (AV × Heap) := sB (fun _ => True) fun m => decide m.DoneP

theorem s57ok : (Ent.summ sOpen).ok Try.prog 57 := sA0_ok open57
theorem s75ok : (Ent.summ sOpen).ok Try.prog 75 := sA0_ok open75
theorem s59ok : (Ent.summ sClose).ok Try.prog 59 := sA1_ok close59
theorem s73ok : (Ent.summ sClose).ok Try.prog 73 := sA1_ok close73
theorem s60ok : (Ent.summ sSnd).ok Try.prog 60 := sA1_ok send60
theorem s76ok : (Ent.summ sSnd).ok Try.prog 76 := sA1_ok send76
theorem s70ok : (Ent.summ sLose).ok Try.prog 70 := sA1_ok lose70
theorem s79ok : (Ent.summ sLose).ok Try.prog 79 := sA1_ok lose79
theorem s71ok : (Ent.summ sAck).ok Try.prog 71 := sA3_ok ack71
theorem s77ok : (Ent.summ sAck).ok Try.prog 77 := sA3_ok ack77
theorem s38ok : (Ent.summ sDone).ok Try.prog 38 := sB_ok fun m _ => done38 m
theorem s80ok : (Ent.summ sDone).ok Try.prog 80 := sB_ok fun m _ => done80 m

end Go.Proofs.Ythckkoledhjmeaa.Ev
