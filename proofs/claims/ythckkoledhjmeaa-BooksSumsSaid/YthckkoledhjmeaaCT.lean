/-
  A step is done, and tallied: what the function does.
-/
import Derived.Test.YthckkoledhjmeaaCV
import Derived.Test.YthckkoledhjmeaaCS
import Derived.Test.YthckkoledhjmeaaCR
namespace Go.Proofs.Ythckkoledhjmeaa.Ev
open Go

theorem e26ok : EntsOk Try.prog e26 := ⟨k26, k48, s32ok, s33ok, s34ok, s35ok, s36ok, s37ok, trivial⟩

def Hb26 (Y : TSt) (B : BSt) : Heap :=
  H26 B.L B.ms.length (miF fun j => B.ms.getD j Mi.zero) B.now B.id B.tmo Y.all.length (miF fun j => Y.all.getD j Mi.zero) Y.taken Y.fo.length (niF fun j => Y.fo.getD j 0) (niF fun j => Y.tt.getD j 0) (niF fun j => Y.sz.getD j 0)

def Hc26 (Y : TSt) (B : BSt) : Heap :=
  [.cells 95 [.ptr 1 0, .d (.int .i64 B.now), .sl 13 15 0 B.ms.length 0, .d (.int .i64 B.id), .d (.int .i64 B.tmo)], .cells 86 (lc B.L 2), .pm B.L.es, .dead,
   .cells 60 [.sl 9 15 0 Y.all.length 0, .d (.int .i64 Y.taken), .sl 10 1 0 Y.fo.length 0, .sl 11 1 0 Y.fo.length 0, .sl 12 1 0 Y.fo.length 0], .dead, .dead, .dead, .dead,
   .row 80 15 Y.all.length (miG Y.all), .row 3 1 Y.fo.length (niG Y.fo), .row 3 1 Y.fo.length (niG Y.tt), .row 3 1 Y.fo.length (niG Y.sz), .row 80 15 B.ms.length (miG B.ms)]

def Out26 (k0 : Nat) (D : BSt) (fr : List AV) (H2 : Heap) : Prop := ∃ r2, fr = [r2] ∧ r2 = .c (.bool true) ∧ ∃ T2, TInv T2 D ∧ T2.fo.length ≤ k0 + 1 ∧ H2 = Hc26 T2 D

theorem lf1 (kd size att seq : Int) (k0 : Nat) (Y : TSt) (D : BSt) (hI : TInv Y D) (hk : Y.fo.length ≤ k0 + 1) (ex : Heap) :
    Re 9 [.c (.bool true)] (C26 kd size att seq D.L D.ms.length (miG D.ms) D.now D.id D.tmo [.sl 5 15 0 Y.all.length 0, .d (.int .i64 Y.taken), .sl 6 1 0 Y.fo.length 0, .sl 7 1 0 Y.fo.length 0, .sl 8 1 0 Y.fo.length 0]
      (.row 80 15 Y.all.length (miF fun j => Y.all.getD j Mi.zero)) (.row 3 1 Y.fo.length (niF fun j => Y.fo.getD j 0)) (.row 3 1 Y.fo.length (niF fun j => Y.tt.getD j 0)) (.row 3 1 Y.fo.length (niF fun j => Y.sz.getD j 0)) ex) (Out26 k0 D) :=
  Re.ren [some 0, some 1, some 2, none, some 4, none, none, none, none, some 5, some 6, some 7, some 8, some 10] rfl rfl rfl (.refl ⟨_, rfl, rfl, Y, hI, hk, rfl⟩)

theorem lf45 (kd size att seq : Int) (k0 : Nat) (Y : TSt) (D : BSt) (hI : TInv Y D) (hk : Y.fo.length ≤ k0 + 1) :
    Re 9 [.c (.bool true)] (K45 kd size att seq D.L D.ms.length (miG D.ms) D.now D.id D.tmo Y.all.length (miG Y.all) Y.taken Y.fo.length (niG Y.fo) (niG Y.tt) (niG Y.sz)) (Out26 k0 D) :=
  Re.ren [some 0, some 1, some 2, none, some 4, none, none, none, none, some 11, some 6, some 7, some 8, some 10] rfl rfl rfl (.refl ⟨_, rfl, rfl, Y, hI, hk, rfl⟩)

theorem lf46 (kd size att seq : Int) (k0 : Nat) (Y : TSt) (D : BSt) (hI : TInv Y D) (hk : Y.fo.length ≤ k0 + 1) :
    Re 9 [.c (.bool true)] (K46 kd size att seq D.L D.ms.length (miG D.ms) D.now D.id D.tmo Y.all.length (miG Y.all) Y.taken Y.fo.length (niG Y.fo) (niG Y.tt) (niG Y.sz)) (Out26 k0 D) :=
  Re.ren [some 0, some 1, some 2, none, some 4, none, none, none, none, some 5, some 11, some 12, some 13, some 10] rfl rfl rfl (.refl ⟨_, rfl, rfl, Y, hI, hk, rfl⟩)

theorem lf47 (kd size att seq : Int) (k0 : Nat) (Y : TSt) (D : BSt) (hI : TInv Y D) (hk : Y.fo.length ≤ k0 + 1) (ex : Heap) :
    Re 9 [.c (.bool true)] (C26 kd size att seq D.L D.ms.length (miG D.ms) D.now D.id D.tmo [.sl 5 15 0 Y.all.length 0, .d (.int .i64 Y.taken), .sl 6 1 0 Y.fo.length 0, .sl 7 1 0 Y.fo.length 0, .sl 8 1 0 Y.fo.length 0]
      (.row 80 15 Y.all.length (miG Y.all)) (.row 3 1 Y.fo.length (niG Y.fo)) (.row 3 1 Y.fo.length (niG Y.tt)) (.row 3 1 Y.fo.length (niG Y.sz)) ex) (Out26 k0 D) :=
  Re.ren [some 0, some 1, some 2, none, some 4, none, none, none, none, some 5, some 6, some 7, some 8, some 10] rfl rfl rfl (.refl ⟨_, rfl, rfl, Y, hI, hk, rfl⟩)

/-- The loop over what has expired, behind its last round. -/
theorem lfE (k0 : Nat) (Y : TSt) (D : BSt) (hI : TInv Y D) (hk : Y.fo.length ≤ k0 + 1) :
    Re 9 [.c (.bool true)] [.cells 95 [.ptr 1 0, .d (.int .i64 D.now), .sl 9 15 0 D.ms.length 0, .d (.int .i64 D.id), .d (.int .i64 D.tmo)], .cells 86 (lc D.L 2), .pm D.L.es, .dead,
      .cells 60 [.sl 5 15 0 Y.all.length 0, .d (.int .i64 Y.taken), .sl 6 1 0 Y.fo.length 0, .sl 7 1 0 Y.fo.length 0, .sl 8 1 0 Y.fo.length 0], .row 80 15 Y.all.length (miG Y.all), .row 3 1 Y.fo.length (niG Y.fo), .row 3 1 Y.fo.length (niG Y.tt), .row 3 1 Y.fo.length (niG Y.sz), .row 80 15 D.ms.length (miG D.ms)] (Out26 k0 D) :=
  Re.ren [some 0, some 1, some 2, none, some 4, none, none, none, none, some 5, some 6, some 7, some 8, some 9] rfl rfl rfl (.refl ⟨_, rfl, rfl, Y, hI, hk, rfl⟩)

/-! ### The loop -/

def He26 (Y : TSt) (S : BSt) (all : List Mi) (l : List Pkt) : Heap :=
  H26e S.L S.ms.length (miF fun j => S.ms.getD j Mi.zero) S.now S.id S.tmo all.length (miF fun j => all.getD j Mi.zero) Y.taken Y.fo.length (niF fun j => Y.fo.getD j 0) (niF fun j => Y.tt.getD j 0) (niF fun j => Y.sz.getD j 0) l.length (pkF fun j => l.getD j Pkt.zero)

def In26 (Y : TSt) (B S : BSt) (l : List Pkt) (now' : Int) (first : Int) (xs : List AV) (H : Heap) : Prop :=
  ∃ (j : Nat) (all : List Mi), LpI Y B S l now' j all ∧ xs = x26 first l.length j ∧ H = He26 Y S all l

set_option maxRecDepth 100000 in
theorem body26 (Y : TSt) (B S : BSt) (hT : TInv Y B) (hk : Y.fo.length < 1000000) (l : List Pkt) (hlen : l.length ≤ 4096) (now' : Int) (hE : ExpF B S l now') (j : Nat) (all : List Mi) (hI : LpI Y B S l now' j all) (vs : Nat → Value)
    (Q : Exit → St → Prop) (hQ : j = l.length → ∀ (vs : Nat → Value), Q (.exit 1) ⟨fat [0, 3, 17, 19] vs (x26 B.L.first l.length j) 164 0, He26 Y S all l⟩) :
    (t26b S.L S.ms.length (fun j => S.ms.getD j Mi.zero) S.now S.id S.tmo all.length (fun j => all.getD j Mi.zero) Y.taken Y.fo.length (fun j => Y.fo.getD j 0) (fun j => Y.tt.getD j 0) (fun j => Y.sz.getD j 0) l.length (fun j => l.getD j Pkt.zero) B.L.first j vs).sat Try.prog fun x => match x.1 with
      | .normal => Re 9 x.2.1 x.2.2 fun xs2 H2 => In26 Y B S l now' B.L.first xs2 H2 ∧ l.length - ctr 3 xs2 < l.length - j
      | e => ∀ vs, Q e ⟨fat [0, 3, 17, 19] vs x.2.1 164 0, x.2.2⟩ := by
  have hj0 := hI.le
  rw [t26b_eq]
  generalize hkc : (T.go [true, true, true, true, true] (t26b S.L S.ms.length (fun j => S.ms.getD j Mi.zero) S.now S.id S.tmo all.length (fun j => all.getD j Mi.zero) Y.taken Y.fo.length (fun j => Y.fo.getD j 0) (fun j => Y.tt.getD j 0) (fun j => Y.sz.getD j 0) l.length (fun j => l.getD j Pkt.zero) B.L.first j vs)).kontC = k
  refine ⟨fun hlt => ?_, fun hge => hQ (by simp only [decide_eq_false_iff_not] at hge; omega)⟩
  have hlt : j < l.length := by simpa using hlt
  have ej : 0 + (j : Int).toNat = j := by omega
  rw [ej]
  refine ⟨by omega, hlt, by omega, hlt, ?_⟩
  obtain ⟨n1, n2, n3⟩ := hI.next hlt
  obtain ⟨i, i1, i2, i3, i4, i5⟩ := hT.num hk (hE.mem _ (mem_get hlt))
  generalize hp : l.getD j Pkt.zero = p at *
  have ec := ended47 ⟨all, Y.taken, Y.fo, Y.tt, Y.sz⟩ hk i p (-1) i1 i3 i4 i5 n1 n2 (fun h => by omega)
  rw [if_neg (by omega)] at ec
  have fin : (k (.c (.bool true)) (He26 Y S (all.set p.mi.toNat (loseM (all.getD p.mi.toNat Mi.zero) p.size)) l)).sat Try.prog fun x => match x.1 with
      | .normal => Re 9 x.2.1 x.2.2 fun xs2 H2 => In26 Y B S l now' B.L.first xs2 H2 ∧ l.length - ctr 3 xs2 < l.length - j
      | e => ∀ vs, Q e ⟨fat [0, 3, 17, 19] vs x.2.1 164 0, x.2.2⟩ := by
    have e : k (.c (.bool true)) (He26 Y S (all.set p.mi.toNat (loseM (all.getD p.mi.toNat Mi.zero) p.size)) l) = t26c S.L S.ms.length (fun j => S.ms.getD j Mi.zero) S.now S.id S.tmo all.length (fun j => all.getD j Mi.zero) Y.taken Y.fo.length (fun j => Y.fo.getD j 0) (fun j => Y.tt.getD j 0) (fun j => Y.sz.getD j 0) l.length (fun j => l.getD j Pkt.zero) B.L.first j vs
        (miF fun i => (all.set p.mi.toNat (loseM (all.getD p.mi.toNat Mi.zero) p.size)).getD i Mi.zero) := by
      rw [← hkc]
      unfold t26c He26
      rw [List.length_set]
    rw [e, t26c_eq, wrap_succ (by omega)]
    refine .refl ⟨⟨j + 1, _, n3, rfl, ?_⟩, ?_⟩
    · unfold He26
      rw [List.length_set]
      rfl
    · simp only [ctr, x26, List.getD_cons_succ, List.getD_cons_zero, asInt, Option.getD_some, Int.toNat_natCast]
      omega
  rw [i2]
  refine CallsA.lift (args0 := [.e (.s (.ptr 0 0)), .d (.int .u64 i), .e (.agg p.cells), .c (.int .i64 (-1))]) (H0 := tHp ⟨all, Y.taken, Y.fo, Y.tt, Y.sz⟩) [4, 5, 6, 7, 8] rfl rfl rfl (CallsA.toD ec) ?_ ?_
  · rintro r H' ⟨rfl, rfl⟩; rfl
  · rintro r H' ⟨rfl, rfl⟩
    unfold He26 at fin
    exact fin

end Go.Proofs.Ythckkoledhjmeaa.Ev
