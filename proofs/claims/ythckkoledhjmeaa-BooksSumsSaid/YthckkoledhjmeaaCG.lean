/-
  The document's rows for books: what is done in them, step by step.
-/
import Derived.Test.YthckkoledhjmeaaCF
namespace Go.Proofs.Ythckkoledhjmeaa.Ev
open Go

def e32n : List (Nat × Ent) := [(32, .body o32 0), (56, .body oN 0)]

noncomputable def t32n (at' : Int) : T (AV × Heap) := callT Try.prog (entL e32n) 2 32 [.c (.pointer none), .d (.int .i64 at')] [] fun r H' => .ret (r, H')

theorem t32n_eq (at' : Int) : t32n at' =
    T.ret (AV.tup [EV.s (SV.c (Value.int IntKind.i64 0)), EV.s (SV.c (Value.int IntKind.i64 5))], []) := by kernel_rfl


/-! ### What is done in the rows -/

def m0a : Mi := ⟨0, 10, -1, 0, 0, 0, 0, 0, 0, 0, 0, 0, 0, 0, 0⟩
def m0b : Mi := ⟨0, 10, -1, 100, 0, 0, 1, 0, 0, 0, 0, 0, 0, 0, 0⟩
def m0c : Mi := ⟨0, 10, 20, 100, 0, 0, 1, 0, 0, 0, 0, 0, 0, 0, 0⟩
def m0d : Mi := ⟨0, 10, 20, 100, 100, 0, 1, 1, 0, 1, 2, 18, 4, 36, 324⟩
def m1a : Mi := ⟨1, 20, -1, 0, 0, 0, 0, 0, 0, 0, 0, 0, 0, 0, 0⟩
def m1b : Mi := ⟨1, 20, -1, 200, 0, 0, 1, 0, 0, 0, 0, 0, 0, 0, 0⟩
def m1c : Mi := ⟨1, 20, -1, 200, 0, 200, 1, 0, 1, 0, 0, 0, 0, 0, 0⟩
def p0 : Pkt := ⟨0, 0, 100, 12⟩
def p1 : Pkt := ⟨1, 1, 200, 21⟩
def b0 : BSt := ⟨⟨9, 0, 0, 0, []⟩, 0, [], 0, 50⟩
def b1 : BSt := ⟨⟨9, 0, 0, 0, []⟩, 10, [m0a], 1, 50⟩
def b2 : BSt := ⟨⟨9, 0, 1, 12, [p0]⟩, 12, [m0b], 1, 50⟩
def b3 : BSt := ⟨⟨9, 0, 1, 12, [p0]⟩, 20, [m0c, m1a], 2, 50⟩
def b4 : BSt := ⟨⟨9, 0, 2, 21, [p0, p1]⟩, 21, [m0c, m1b], 2, 50⟩
def b5 : BSt := ⟨⟨9, 0, 2, 21, [p1]⟩, 30, [m0d, m1b], 2, 50⟩
def b6 : BSt := ⟨⟨9, 0, 2, 21, [p1]⟩, 30, [m1b], 2, 50⟩
def b8 : BSt := ⟨⟨9, 0, 2, 21, []⟩, 71, [m1c], 2, 50⟩

/-- A step whose books are known. -/
def sBt {α : Type} (dec : List AV → Option α) (tab : Nat → α → Option (BSt × BSt × AV × Heap)) (args : List AV) (H : Heap) : T (AV × Heap) :=
  match args with
  | .e (.s (.ptr l 0)) :: rest => match bkAt H l, dec rest with
    | some (B, p, lm, lr, q), some x => match tab B.ms.length x with
      | some (B0, B1, r, ex) => .need (q ∧ B = B0) (.ret (r.by (back [l, p, lm, lr] H.length), putBk H l p lm lr B1 ++ ex.map (AB.by (back [l, p, lm, lr] H.length))))
      | none => .fail
    | _, _ => .fail
  | _ => .fail

theorem sBt_ok {α : Type} {f : Nat} {dec : List AV → Option α} {enc : α → List AV} {tab : Nat → α → Option (BSt × BSt × AV × Heap)} (hd : ∀ {args : List AV} {x : α}, dec args = some x → (∀ ms, renFr ms args = some args) ∧ args.map AV.toD = enc x)
    (h : ∀ n x B0 B1 r ex, tab n x = some (B0, B1, r, ex) → noRo ex = true ∧ CallsA Try.prog f (.e (.s (.ptr 0 0)) :: enc x) (bhp B0) fun r' H' => r' = r ∧ H' = bhp4 B1 ++ ex) : (Ent.summ (sBt dec tab)).ok Try.prog f := by
  intro args H Q hq
  unfold sBt at hq
  split at hq
  · rename_i l rest
    split at hq
    · rename_i B p lm lr q x hl hx
      split at hq
      · rename_i B0 B1 r ex ht
        obtain ⟨⟨h1, h2⟩, hq⟩ := hq
        subst h2
        obtain ⟨d1, d2⟩ := hd hx
        obtain ⟨g1, g2⟩ := h _ _ _ _ _ _ ht
        refine (bk_lift hl h1 d1 d2 g1 g2).mono ?_
        rintro r H' ⟨rfl, rfl⟩
        exact hq
      · exact hq.elim
    · exact hq.elim
  · exact hq.elim

theorem EV.ok_toD {E : Env} (x : EV) (h : (AV.e x.toD).ok E) : (AV.e x).ok E := by
  intro y hy
  cases x with
  | s x =>
    have := h x.toD (List.mem_singleton.2 rfl)
    rw [List.mem_singleton.1 hy]
    cases x <;> exact this
  | agg cs =>
    have := h y.toD (List.mem_map.2 ⟨y, hy, rfl⟩)
    cases y <;> exact this

theorem AV.ok_toD {E : Env} (x : AV) (h : x.toD.ok E) : x.ok E := by
  cases x with
  | e x => exact EV.ok_toD x h
  | tup vs =>
    intro y hy
    obtain ⟨v, hv, hy⟩ := List.mem_flatMap.1 hy
    refine EV.ok_toD v (fun z hz => h z ?_) y hy
    exact List.mem_flatMap.2 ⟨v.toD, List.mem_map.2 ⟨v, hv, rfl⟩, hz⟩

/-- What is handed back is known. -/
theorem CallsA.lit {P : Program} {f : Nat} {args : List AV} {H K K2 : Heap} {r r2 : AV} (h : CallsA P f args H fun r' H' => r' = r ∧ H' = K) (hr : r2.toD = r) (hK : K = K2) : CallsA P f args H fun r' H' => r' = r2 ∧ H' = K2 := by
  subst hr hK
  refine h.out ?_
  rintro r' H' ⟨rfl, rfl⟩
  exact ⟨r2, fun E => (AV.toD_conc r2).1.symm, by rw [(AV.toD_conc (E := ⟨fun _ => 0, fun _ => 0, fun _ => 0, fun _ => false⟩) r2).2.1]; exact Nat.le_refl _, fun E => AV.ok_toD r2, rfl, rfl⟩

def n2 (a b : Int) : AV := .tup [.s (.c (.int .i64 a)), .s (.c (.int .i64 b))]
def u2 (a b : Int) : AV := .tup [.s (.c (.int .u64 a)), .s (.c (.int .i64 b))]
def pC (p : Pkt) : EV := .agg [.c (.int .u64 p.seq), .c (.int .i64 p.mi), .c (.int .i64 p.size), .c (.int .i64 p.sent)]
def p2 (p : Pkt) (b : Int) : AV := .tup [pC p, .s (.c (.int .i64 b))]
def mC (m : Mi) : EV := .agg [.c (.int .i64 m.id), .c (.int .i64 m.frm), .c (.int .i64 m.to), .c (.int .i64 m.sent), .c (.int .i64 m.acked), .c (.int .i64 m.lost), .c (.int .i64 m.packets), .c (.int .i64 m.hits), .c (.int .i64 m.drops), .c (.int .i64 m.n), .c (.int .i64 m.sumT), .c (.int .i64 m.sumR), .c (.int .i64 m.sumTT), .c (.int .i64 m.sumTR), .c (.int .i64 m.sumRR)]
def m2 (m : Mi) (b : Bool) : AV := .tup [mC m, .s (.c (.bool b))]

def tab32 (_ : Nat) (x : Int) : Option (BSt × BSt × AV × Heap) := if x = 10 then some (b0, b1, n2 0 0, []) else if x = 20 then some (b2, b3, n2 1 0, []) else none
def tab33 (_ : Nat) (x : Int × Int) : Option (BSt × BSt × AV × Heap) := if x = (100, 12) then some (b1, b2, u2 0 0, []) else if x = (200, 21) then some (b3, b4, u2 1 0, []) else none
def tab34 (_ : Nat) (x : Int × Int) : Option (BSt × BSt × AV × Heap) := if x = (0, 30) then some (b4, b5, p2 p0 0, []) else if x = (1, 72) then some (b8, b8, p2 Pkt.zero 4, []) else none
def tab37 (n : Nat) (_ : Unit) : Option (BSt × BSt × AV × Heap) := if n = 2 then some (b5, b6, m2 m0d true, []) else if n = 1 then some (b6, b6, m2 Mi.zero false, []) else none
def tab36 (_ : Nat) (x : Int) : Option (BSt × BSt × AV × Heap) := if x = 71 then some (b6, b8, .tup [.s (.sl 5 4 0 1 0), .s (.c (.int .i64 0))], [.row 36 4 1 (pkG [p1])]) else none

theorem ok0 : b0.Ok := okB_new (room := 9) (first := 0) (tmo := 50) (by decide) (by decide) (by decide) (by decide) (by decide) (by decide)
theorem ok1 : b1.Ok := by
  have e : begB b0 10 = b1 := by kernel_rfl
  rw [← e]; exact ok0.begin _
theorem ok2 : b2.Ok := by
  have e : sbB b1 100 12 = b2 := by kernel_rfl
  rw [← e]; exact ok1.send _ _
theorem ok3 : b3.Ok := by
  have e : begB b2 20 = b3 := by kernel_rfl
  rw [← e]; exact ok2.begin _
theorem ok4 : b4.Ok := by
  have e : sbB b3 200 21 = b4 := by kernel_rfl
  rw [← e]; exact ok3.send _ _
theorem ok5 : b5.Ok := by
  have e : akB b4 0 30 = b5 := by kernel_rfl
  rw [← e]; exact ok4.ack _ _
theorem ok6 : b6.Ok := by
  have e : tkB b5 = b6 := by kernel_rfl
  rw [← e]; exact ok5.take
theorem ok8 : b8.Ok := by
  have e : exB b6 71 = b8 := by kernel_rfl
  rw [← e]; exact ok6.expire _

theorem no_ex' {B : BSt} : bhp4 B = bhp4 B ++ [] := by rw [List.append_nil]

def s32t : List AV → Heap → T (AV × Heap) := sBt dec1 tab32
def s33t : List AV → Heap → T (AV × Heap) := sBt dec2 tab33
def s34t : List AV → Heap → T (AV × Heap) := sBt decU tab34
def s37t : List AV → Heap → T (AV × Heap) := sBt dec0 tab37
def s36t : List AV → Heap → T (AV × Heap) := sBt dec1 tab36

theorem s32tok : (Ent.summ s32t).ok Try.prog 32 := sBt_ok (enc := fun x => [.d (.int .i64 x)]) dec1_ok fun n x B0 B1 r ex h => by
  unfold tab32 at h
  split at h
  · rename_i hx
    cases h; subst hx
    exact ⟨rfl, (begin32 b0 ok0 (by decide) 10).lit (by kernel_rfl) (by rw [List.append_nil]; kernel_rfl)⟩
  split at h
  · rename_i hx
    cases h; subst hx
    exact ⟨rfl, (begin32 b2 ok2 (by decide) 20).lit (by kernel_rfl) (by rw [List.append_nil]; kernel_rfl)⟩
  · cases h

theorem s33tok : (Ent.summ s33t).ok Try.prog 33 := sBt_ok (enc := fun x => [.d (.int .i64 x.1), .d (.int .i64 x.2)]) dec2_ok fun n x B0 B1 r ex h => by
  unfold tab33 at h
  split at h
  · rename_i hx
    cases h; subst hx
    exact ⟨rfl, (send33 b1 ok1 100 12).lit (by kernel_rfl) (by rw [List.append_nil]; kernel_rfl)⟩
  split at h
  · rename_i hx
    cases h; subst hx
    exact ⟨rfl, (send33 b3 ok3 200 21).lit (by kernel_rfl) (by rw [List.append_nil]; kernel_rfl)⟩
  · cases h

theorem s34tok : (Ent.summ s34t).ok Try.prog 34 := sBt_ok (enc := fun x => [.d (.int .u64 x.1), .d (.int .i64 x.2)]) decU_ok fun n x B0 B1 r ex h => by
  unfold tab34 at h
  split at h
  · rename_i hx
    cases h; subst hx
    exact ⟨rfl, (ack34 b4 ok4 0 30).lit (by kernel_rfl) (by rw [List.append_nil]; kernel_rfl)⟩
  split at h
  · rename_i hx
    cases h; subst hx
    exact ⟨rfl, (ack34 b8 ok8 1 72).lit (by kernel_rfl) (by rw [List.append_nil]; kernel_rfl)⟩
  · cases h

theorem s37tok : (Ent.summ s37t).ok Try.prog 37 := sBt_ok (enc := fun _ => []) dec0_ok fun n x B0 B1 r ex h => by
  unfold tab37 at h
  split at h
  · cases h
    exact ⟨rfl, (take37 b5 ok5).lit (by kernel_rfl) (by rw [List.append_nil]; kernel_rfl)⟩
  split at h
  · cases h
    exact ⟨rfl, (take37 b6 ok6).lit (by kernel_rfl) (by rw [List.append_nil]; kernel_rfl)⟩
  · cases h

theorem s36tok : (Ent.summ s36t).ok Try.prog 36 := sBt_ok (enc := fun x => [.d (.int .i64 x)]) dec1_ok fun n x B0 B1 r ex h => by
  unfold tab36 at h
  split at h
  · rename_i hx
    cases h; subst hx
    exact ⟨rfl, (expire36 b6 ok6 71).lit (by kernel_rfl) (by kernel_rfl)⟩
  · cases h

/-- Begin, of nobody's books, too. -/
def s32n (args : List AV) (H : Heap) : T (AV × Heap) :=
  match args with
  | [.e (.s (.c (.pointer none))), a] => match numA a with
    | some (.i64, _) => .ret (.tup [.s (.c (.int .i64 0)), .s (.c (.int .i64 5))], H)
    | _ => .fail
  | _ => s32t args H

def e25 : List (Nat × Ent) := [(25, .body oN 0), (23, .summ s23), (32, .summ s32n), (33, .summ s33t), (34, .summ s34t), (37, .summ s37t), (36, .summ s36t)]

noncomputable def t25  : T (AV × Heap) := callT Try.prog (entL e25) 2 25 [] [] fun r H' => .ret (r, H')

theorem t25_eq  : t25  =
    T.ite false T.fail
 (T.need
 ((0 = 0 ∧ MiRow 0 (miG [])) ∧
 { L := { room := (newL 9 0).room, first := (newL 9 0).first, next := (newL 9 0).next, last := (newL 9 0).last, es := [] : LSt }, now := 0, ms := rowMi 0 (miG []), id := 0, tmo := 50 : BSt } =
 b0)
 (T.need
 ((b1.ms.length = b1.ms.length ∧ MiRow b1.ms.length (miG b1.ms)) ∧
 { L := b1.L, now := b1.now, ms := rowMi b1.ms.length (miG b1.ms), id := b1.id, tmo := b1.tmo : BSt } = b1)
 (T.need
 ((b2.ms.length = b2.ms.length ∧ MiRow b2.ms.length (miG b2.ms)) ∧
 { L := b2.L, now := b2.now, ms := rowMi b2.ms.length (miG b2.ms), id := b2.id, tmo := b2.tmo : BSt } = b2)
 (T.need
 ((b3.ms.length = b3.ms.length ∧ MiRow b3.ms.length (miG b3.ms)) ∧
 { L := b3.L, now := b3.now, ms := rowMi b3.ms.length (miG b3.ms), id := b3.id, tmo := b3.tmo : BSt } = b3)
 (T.need
 ((b4.ms.length = b4.ms.length ∧ MiRow b4.ms.length (miG b4.ms)) ∧
 { L := b4.L, now := b4.now, ms := rowMi b4.ms.length (miG b4.ms), id := b4.id, tmo := b4.tmo : BSt } = b4)
 (T.need
 ((b5.ms.length = b5.ms.length ∧ MiRow b5.ms.length (miG b5.ms)) ∧
 { L := b5.L, now := b5.now, ms := rowMi b5.ms.length (miG b5.ms), id := b5.id, tmo := b5.tmo : BSt } =
 b5)
 (T.need
 ((b6.ms.length = b6.ms.length ∧ MiRow b6.ms.length (miG b6.ms)) ∧
 { L := b6.L, now := b6.now, ms := rowMi b6.ms.length (miG b6.ms), id := b6.id, tmo := b6.tmo : BSt } =
 b6)
 (T.need
 ((b6.ms.length = b6.ms.length ∧ MiRow b6.ms.length (miG b6.ms)) ∧
 { L := b6.L, now := b6.now, ms := rowMi b6.ms.length (miG b6.ms), id := b6.id, tmo := b6.tmo : BSt } =
 b6)
 (T.need
 ((b8.ms.length = b8.ms.length ∧ MiRow b8.ms.length (miG b8.ms)) ∧
 { L := b8.L, now := b8.now, ms := rowMi b8.ms.length (miG b8.ms), id := b8.id, tmo := b8.tmo : BSt } =
 b8)
 (T.ite true
 (T.need ((0 : Int) ≤ 0 ∧ (0 : Int) < (↑1 : Int))
 (T.need (0 < 1)
 (T.ite true
 (T.ite true (T.ret (AV.e (EV.s (SV.c (Value.bool true))), []))
 (T.ret (AV.e (EV.s (SV.c (Value.bool false))), [])))
 (T.ret (AV.e (EV.s (SV.c (Value.bool false))), [])))))
 (T.ret (AV.e (EV.s (SV.c (Value.bool false))), [])))))))))))) := by kernel_rfl


theorem e32nok : EntsOk Try.prog e32n := ⟨k32, k56, trivial⟩

theorem begin32n (at' : Int) : CallsA Try.prog 32 [.c (.pointer none), .d (.int .i64 at')] [] fun r H' => r = .tup [.s (.c (.int .i64 0)), .s (.c (.int .i64 5))] ∧ H' = [] := by
  refine calls_of fine e32nok 2 32 _ _ ?_
  show (t32n at').sat _ _
  rw [t32n_eq]
  exact ⟨rfl, rfl⟩

theorem s32nok : (Ent.summ s32n).ok Try.prog 32 := by
  intro args H Q hq
  unfold s32n at hq
  split at hq
  · rename_i a
    split at hq
    · rename_i x ha
      obtain ⟨a1, a2⟩ := numA_facts ha
      refine CallsA.lift (args0 := [.c (.pointer none), a]) (H0 := []) [] ?_ rfl rfl (CallsA.same (args := [.c (.pointer none), .d (.int .i64 x)]) ?_ ?_ (begin32n x)) ?_ ?_
      · simp only [List.map_nil, renFr, a1]; rfl
      · intro E; simp only [List.map_cons, List.map_nil, ← a2, (AV.toD_conc a).1]
      · intro E n h y hy
        rcases List.mem_cons.1 hy with rfl | hy
        · exact ⟨Nat.zero_le _, ok_s.2 trivial⟩
        · rw [List.mem_singleton.1 hy]; exact ⟨Nat.zero_le _, ok_s.2 trivial⟩
      · rintro r H' ⟨rfl, rfl⟩; rfl
      · rintro r H' ⟨rfl, rfl⟩
        rw [backH_nil]
        exact hq
    · exact hq.elim
  · exact s32tok args H Q hq

theorem e25ok : EntsOk Try.prog e25 := ⟨k25, s23ok, s32nok, s33tok, s34tok, s37tok, s36tok, trivial⟩

end Go.Proofs.Ythckkoledhjmeaa.Ev
