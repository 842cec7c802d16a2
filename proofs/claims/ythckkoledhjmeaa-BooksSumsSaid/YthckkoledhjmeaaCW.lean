/-
  The statement BooksSums, told of the abstract evaluator's data.
-/
import Derived.Test.YthckkoledhjmeaaCX
import Derived.Test.YthckkoledhjmeaaCU
import Derived.Test.YthckkoledhjmeaaCI
namespace Go.Proofs.Ythckkoledhjmeaa.Ev
open Go

theorem e7ok : EntsOk Try.prog e7 := ⟨k7, k24, s23ok, s25ok, s28ok, u27ok, trivial⟩

def Hb7 (ns : Nat) (f : Nat → Sq) (Y : TSt) (B : BSt) : Heap :=
  H7 ns f B.L B.ms.length (miF fun j => B.ms.getD j Mi.zero) B.now B.id B.tmo Y.all.length (miF fun j => Y.all.getD j Mi.zero) Y.taken Y.fo.length (niF fun j => Y.fo.getD j 0) (niF fun j => Y.tt.getD j 0) (niF fun j => Y.sz.getD j 0)

def Hc7 (ns : Nat) (f : Nat → Sq) (Y : TSt) (B : BSt) : Heap :=
  H7c ns f B.L B.ms.length (miF fun j => B.ms.getD j Mi.zero) B.now B.id B.tmo Y.all.length (miF fun j => Y.all.getD j Mi.zero) Y.taken Y.fo.length (niG Y.fo) (niG Y.tt) (niG Y.sz)

def In7 (ns z : Nat) (f : Nat → Sq) (first : Int) (xs : List AV) (H : Heap) : Prop :=
  ∃ (i : Nat) (Y : TSt) (B : BSt), B.Ok ∧ TInv Y B ∧ B.L.first = first ∧ B.id ≤ i ∧ Y.fo.length ≤ i ∧ xs = x7 first ns z i ∧ H = Hb7 ns f Y B

theorem same_rest {Y : TSt} {B : BSt} (h : TInv Y B) : sameMi B.ms.length (fun x => decMi (miG B.ms x)) (Y.all.length - Y.taken) (fun x => decMi (miF (fun j => Y.all.getD j Mi.zero) (0 + Y.taken + x))) = true := by
  refine sameMi_iff.2 ⟨h.r.len, fun j _ => ?_⟩
  show B.ms.getD j Mi.zero = Y.all.getD (0 + Y.taken + j) Mi.zero
  rw [h.r.get j, Nat.zero_add]

set_option maxRecDepth 100000 in
theorem body7 (ns z : Nat) (f : Nat → Sq) (hns : ns ≤ 150) (Y : TSt) (B : BSt) (hB : B.Ok) (hY : TInv Y B) (i : Nat) (hi : B.id ≤ i) (hk : Y.fo.length ≤ i) (vs : Nat → Value) (Q : Exit → St → Prop) (hQ : ∀ (vs : Nat → Value), Q (.exit 0) ⟨fat [1, 3, 9, 11, 12] vs (x7 B.L.first ns z i) 65 0, Hb7 ns f Y B⟩) :
    (t7b B.L.first ns z f B.L B.ms.length (fun j => B.ms.getD j Mi.zero) B.now B.id B.tmo Y.all.length (fun j => Y.all.getD j Mi.zero) Y.taken Y.fo.length (fun j => Y.fo.getD j 0) (fun j => Y.tt.getD j 0) (fun j => Y.sz.getD j 0) i vs).sat Try.prog fun x => match x.1 with
      | .normal => Re 1 x.2.1 x.2.2 fun xs2 H2 => In7 ns z f B.L.first xs2 H2 ∧ ns - ctr 4 xs2 < ns - i
      | e => ∀ vs, Q e ⟨fat [1, 3, 9, 11, 12] vs x.2.1 65 0, x.2.2⟩ := by
  rw [t7b_eq]
  generalize hkc : (T.go [true, true, true] (t7b B.L.first ns z f B.L B.ms.length (fun j => B.ms.getD j Mi.zero) B.now B.id B.tmo Y.all.length (fun j => Y.all.getD j Mi.zero) Y.taken Y.fo.length (fun j => Y.fo.getD j 0) (fun j => Y.tt.getD j 0) (fun j => Y.sz.getD j 0) i vs)).kontC = k
  refine ⟨fun hlt => ?_, fun _ vs => hQ vs⟩
  have hlt : i < ns := by simpa using hlt
  refine ⟨by omega, by simpa using hlt, ?_⟩
  have hid : fewIds B := by unfold fewIds; omega
  have hnum := hY.r.num
  have hP : Pre26 Y B := ⟨hB, hY, by omega, by omega⟩
  have st := step26 Y B hP hid (f (0 + (i : Int).toNat)).kind (f (0 + (i : Int).toNat)).size (f (0 + (i : Int).toNat)).att (f (0 + (i : Int).toNat)).seq
  have hok := hB.does (f (0 + (i : Int).toNat)).kind (f (0 + (i : Int).toNat)).size (f (0 + (i : Int).toNat)).att (f (0 + (i : Int).toNat)).seq
  have hkeep := do_keep B (f (0 + (i : Int).toNat)).kind (f (0 + (i : Int).toNat)).size (f (0 + (i : Int).toNat)).att (f (0 + (i : Int).toNat)).seq
  generalize doB B (f (0 + (i : Int).toNat)).kind (f (0 + (i : Int).toNat)).size (f (0 + (i : Int).toNat)).att (f (0 + (i : Int).toNat)).seq = D at *
  have k1 := hkeep.1
  have k2 := hkeep.2
  clear hkeep
  have fin : ∀ Y2 : TSt, TInv Y2 D → Y2.fo.length ≤ Y.fo.length + 1 → (k (.c (.bool true)) (Hc7 ns f Y2 D)).sat Try.prog fun x => match x.1 with
      | .normal => Re 1 x.2.1 x.2.2 fun xs2 H2 => In7 ns z f B.L.first xs2 H2 ∧ ns - ctr 4 xs2 < ns - i
      | e => ∀ vs, Q e ⟨fat [1, 3, 9, 11, 12] vs x.2.1 65 0, x.2.2⟩ := by
    intro Y2 hY2 hk2
    have e : k (.c (.bool true)) (Hc7 ns f Y2 D) = t7c B.L.first ns z f B.L B.ms.length (fun j => B.ms.getD j Mi.zero) B.now B.id B.tmo Y.all.length (fun j => Y.all.getD j Mi.zero) Y.taken Y.fo.length (fun j => Y.fo.getD j 0) (fun j => Y.tt.getD j 0) (fun j => Y.sz.getD j 0) i vs D.L D.ms.length (fun j => D.ms.getD j Mi.zero) D.now D.id D.tmo
        Y2.all.length (fun j => Y2.all.getD j Mi.zero) Y2.taken Y2.fo.length (niG Y2.fo) (niG Y2.tt) (niG Y2.sz) := by
      rw [← hkc]
      unfold t7c Hc7
      rfl
    rw [e, t7c_eq, rowMi_miF]
    have eD : (⟨D.L, D.now, D.ms, D.id, D.tmo⟩ : BSt) = D := rfl
    rw [eD]
    have hl := hY2.r.len
    have ht := hY2.r.tk
    have hlen : D.ms.length ≤ most := by have := hok.acc.len; unfold most; omega
    have e1 : (Y2.all.length : Int).toNat = Y2.all.length := Int.toNat_natCast _
    have e2 : (Y2.taken : Int).toNat = Y2.taken := Int.toNat_natCast _
    rw [e1, e2]
    refine ⟨by omega, ⟨⟨rfl, miRow_F _ _⟩, hok, trivial⟩, rfl, rfl, ⟨⟨Nat.le_refl _, by omega, hlen⟩, miRow_G _ _, miRow_F _ _⟩, fun _ => ?_, fun hx => ?_⟩
    · refine Re.ren [some 0, some 1, some 2, some 3, some 15, some 5, some 10, some 11, some 12, some 13] rfl rfl rfl (.refl ?_)
      rw [wrap_succ (by omega)]
      refine ⟨⟨i + 1, Y2, D, hok, hY2, k1, by omega, by omega, rfl, rfl⟩, ?_⟩
      simp only [ctr, List.getD_cons_succ, List.getD_cons_zero, asInt, Option.getD_some, Int.toNat_natCast]
      omega
    · rw [same_rest hY2] at hx; cases hx
  refine CallsA.lift (args0 := [.e (.s (.ptr 4 0)), .e (.s (.ptr 0 0)), .e (.agg [.d (.int .i64 (f (0 + (i : Int).toNat)).kind), .d (.int .i64 (f (0 + (i : Int).toNat)).size), .d (.int .i64 (f (0 + (i : Int).toNat)).att), .d (.int .u64 (f (0 + (i : Int).toNat)).seq)]), .d (.int .u64 B.L.first)]) (H0 := Hb26 Y B) [1, 2, 3, 4, 5, 6, 7, 8, 9] rfl rfl rfl st ?_ ?_
  · rintro r H' ⟨rfl, Y2, _, _, rfl⟩; rfl
  · rintro r H' ⟨rfl, Y2, g1, g2, rfl⟩
    exact fin Y2 g1 g2

set_option maxRecDepth 100000 in
theorem sums7 (room first tmo : Int) (ns z : Nat) (f : Nat → Sq) (h1 : 0 ≤ first) (h2 : first ≤ 18446744073709551615) :
    CallsA Try.prog 7 [.d (.int .i64 room), .d (.int .u64 first), .d (.int .i64 tmo), .e (.s (.sl 0 4 0 ns z))] [.ro 4 ns (sqF f)] fun r _ => r = .c (.bool true) := by
  refine calls_of fine e7ok 4 7 _ _ ?_
  show (t7 room first tmo ns z f).sat _ _
  rw [t7_eq]
  generalize hk : (T.go [false, true] (t7 room first tmo ns z f)).kont = k
  refine ⟨fun _ => rfl, fun hb => ⟨fun hns => ?_, fun _ => rfl⟩⟩
  have hnb : nbE room tmo = 0 := by simpa using hb
  obtain ⟨r1, r2, r3, r4⟩ := nbE_zero hnb
  have hns : ns ≤ 150 := by simp only [decide_eq_true_eq] at hns; omega
  have hke : ∀ (i : Nat) (Y : TSt) (B : BSt) (vs : Nat → Value), (k (.exit 0) ⟨fat [1, 3, 9, 11, 12] vs (x7 first ns z i) 65 0, Hb7 ns f Y B⟩).sat Try.prog fun x => x.1 = .c (.bool true) := by
    intro i Y B vs
    rw [← hk]
    show (t7k room first tmo ns z f B.L B.ms.length (fun j => B.ms.getD j Mi.zero) B.now B.id B.tmo Y.all.length (fun j => Y.all.getD j Mi.zero) Y.taken Y.fo.length (fun j => Y.fo.getD j 0) (fun j => Y.tt.getD j 0) (fun j => Y.sz.getD j 0) i vs).sat _ _
    rw [t7k_eq]
    rfl
  have hn1 : ∀ (xs : List AV) (H : Heap), In7 ns z f first xs H → 1 ≤ H.length := by
    rintro xs H ⟨i, Y, B, _, _, _, _, _, _, rfl⟩; show 1 ≤ 10; omega
  refine code_loop fine e7ok 3 (live := [1, 3, 9, 11, 12]) (N := 65) kl7 (In7 ns z f first) (fun xs _ => ns - ctr 4 xs) hn1 ?_ rfl ?_
  · intro xs H vs hI
    cases hI with | intro i hI =>
    cases hI with | intro Y hI =>
    cases hI with | intro B hI =>
    have hB := hI.1
    have hY := hI.2.1
    have hf := hI.2.2.1
    have hid := hI.2.2.2.1
    have hfo := hI.2.2.2.2.1
    have hxs := hI.2.2.2.2.2.1
    have hH := hI.2.2.2.2.2.2
    clear hI
    rw [hxs, hH]
    clear hxs hH
    have hb := body7 ns z f hns Y B hB hY i hid hfo vs (fun e σ' => (k e σ').sat Try.prog fun x => x.1 = .c (.bool true)) (fun vs => by
      have := hke i Y B vs
      rw [← hf] at this
      exact this)
    unfold t7b at hb
    rw [← hf]
    refine T.sat_mono ?_ hb
    have hμ : ns - ctr 4 (x7 B.L.first ns z (i : Nat)) = ns - i := rfl
    rintro ⟨e, xs2, H2⟩ hx
    cases e with
    | normal => rw [hμ]; exact hx
    | exit id => exact fun vs => hx vs
    | goto l => exact fun vs => hx vs
    | ret => exact fun vs => hx vs
    | panic ch => exact fun vs => hx vs
    | outgrown => exact fun vs => hx vs
  · refine Re.nilCell 5 0 80 15 (miG []) (by decide) rfl rfl (Re.nilCell 5 2 3 1 (niG []) (by decide) rfl rfl (Re.nilCell 5 3 3 1 (niG []) (by decide) rfl rfl (Re.nilCell 5 4 3 1 (niG []) (by decide) rfl rfl
      (.toDm [false, false, false, false, true] [false, false, false, false, false, true] (.refl ?_)))))
    exact ⟨0, newT, newB' room first tmo, okB_new r1 r2 h1 h2 r3 r4, tinv_new room first tmo, rfl, Int.le_refl _, Nat.le_refl _, rfl, rfl⟩

end Go.Proofs.Ythckkoledhjmeaa.Ev
