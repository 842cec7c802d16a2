/-
  Books, the program's and the document's, answer a step the same.
-/
import Derived.Test.YthckkoledhjmeaaCB
namespace Go.Proofs.Ythckkoledhjmeaa.Ev
open Go

theorem e30ok : EntsOk Try.prog e30 := ⟨k30, s32ok, s33ok, s34ok, s35ok, s36ok, s37ok, s50ok, s51ok, s52ok, s53ok, s54ok, s55ok, s16ok, trivial⟩

/-- What a step makes of books. -/
def stepB (B : BSt) (a b c d : Int) : BSt :=
  if a = 0 then begB B c else if a = 1 then sbB B b c else if a = 2 then akB B d c else if a = 3 then loB B d c else if a = 4 then exB B c else tkB B

def two (B : BSt) : Heap := twoH B.L B.ms.length (miF fun j => B.ms.getD j Mi.zero) B.now B.id B.tmo B.L.es.length (pkG B.L.es)
def two4 (B : BSt) : Heap :=
  [.cells 95 [.ptr 1 0, .d (.int .i64 B.now), .sl 8 15 0 B.ms.length 0, .d (.int .i64 B.id), .d (.int .i64 B.tmo)], .cells 86 (lc B.L 2), .pm B.L.es, .dead,
   .cells 72 [.ptr 5 0, .sl 10 15 0 B.ms.length 0, .d (.int .i64 B.id), .d (.int .i64 B.tmo), .d (.int .i64 B.now)], .cells 44 (rc B.L 9 B.L.es.length), .dead, .dead,
   .row 80 15 B.ms.length (miG B.ms), .row 36 4 B.L.es.length (pkG B.L.es), .row 80 15 B.ms.length (miG B.ms)]

def outQ (B : BSt) (fr : List AV) (H2 : Heap) : Prop := ∃ r2, fr = [r2] ∧ r2 = .d (.bool true) ∧ H2 = two4 B

theorem two_leafA (B : BSt) (X : AB) : Re 8 [.c (.bool true)]
    [.cells 95 [.ptr 1 0, .d (.int .i64 B.now), .sl 9 15 0 B.ms.length 0, .d (.int .i64 B.id), .d (.int .i64 B.tmo)], .cells 86 (lc B.L 2), .pm B.L.es, .dead,
     .cells 72 [.ptr 5 0, .sl 11 15 0 B.ms.length 0, .d (.int .i64 B.id), .d (.int .i64 B.tmo), .d (.int .i64 B.now)], .cells 44 (rc B.L 10 B.L.es.length), .dead, .dead, X,
     .row 80 15 B.ms.length (miG B.ms), .row 36 4 B.L.es.length (pkG B.L.es), .row 80 15 B.ms.length (miG B.ms)] (outQ B) :=
  Re.ren [some 0, some 1, some 2, none, some 4, some 5, none, none, some 9, some 10, some 11] rfl rfl rfl (.toD (.refl ⟨_, rfl, rfl, rfl⟩))

theorem two_leafB (B : BSt) (X Y : AB) : Re 8 [.c (.bool true)]
    [.cells 95 [.ptr 1 0, .d (.int .i64 B.now), .sl 9 15 0 B.ms.length 0, .d (.int .i64 B.id), .d (.int .i64 B.tmo)], .cells 86 (lc B.L 2), .pm B.L.es, .dead,
     .cells 72 [.ptr 5 0, .sl 12 15 0 B.ms.length 0, .d (.int .i64 B.id), .d (.int .i64 B.tmo), .d (.int .i64 B.now)], .cells 44 (rc B.L 11 B.L.es.length), .dead, .dead, X,
     .row 80 15 B.ms.length (miG B.ms), Y, .row 36 4 B.L.es.length (pkG B.L.es), .row 80 15 B.ms.length (miG B.ms)] (outQ B) :=
  Re.ren [some 0, some 1, some 2, none, some 4, some 5, none, none, some 9, some 11, some 12] rfl rfl rfl (.toD (.refl ⟨_, rfl, rfl, rfl⟩))

theorem same_self (es : List Pkt) : samePk es.length (fun x => decPkt (pkG es (0 + x))) es.length (fun x => decPkt (pkG es (0 + x))) = true := samePk_iff.2 ⟨rfl, fun _ _ => rfl⟩

set_option maxRecDepth 100000 in
theorem answers30 (B : BSt) (h : B.Ok) (hid : fewIds B) (a b c d : Int) :
    CallsA Try.prog 30 [.e (.s (.ptr 0 0)), .e (.s (.ptr 4 0)), .e (.agg [.d (.int .i64 a), .d (.int .i64 b), .d (.int .i64 c), .d (.int .u64 d)])] (two B) fun r H' => r = .d (.bool true) ∧ H' = two4 (stepB B a b c d) := by
  refine CallsA.re (calls_of fine e30ok 2 30 _ _ ?_)
  show (t30 B.L B.ms.length (fun j => B.ms.getD j Mi.zero) B.now B.id B.tmo B.L.es.length (pkG B.L.es) a b c d).sat Try.prog fun x => Re 8 [x.1] x.2 (outQ (stepB B a b c d))
  rw [t30_eq]
  have hB1 : (⟨B.L, B.now, B.ms, B.id, B.tmo⟩ : BSt) = B := rfl
  have hB2 : (⟨⟨B.L.room, B.L.first, B.L.next, B.L.last, B.L.es⟩, B.now, B.ms, B.id, B.tmo⟩ : BSt) = B := rfl
  rw [rowMi_miF, rowPk_pkG, hB2]
  have N1 : ∀ C : Prop, C → (B.ms.length = B.ms.length ∧ MiRow B.ms.length (miF fun j => B.ms.getD j Mi.zero)) ∧ B.Ok ∧ C := fun C hC => ⟨⟨rfl, miRow_F _ _⟩, h, hC⟩
  have N2 : ∀ C : Prop, C → ((B.ms.length = B.ms.length ∧ MiRow B.ms.length (miF fun j => B.ms.getD j Mi.zero)) ∧ B.L.es.length = B.L.es.length ∧ PkRow B.L.es.length (pkG B.L.es)) ∧ B.Ok ∧ C := fun C hC => ⟨⟨⟨rfl, miRow_F _ _⟩, rfl, pkRow_G _ _⟩, h, hC⟩
  have no : ∀ {x : Int} {P : Prop}, (x == x) = false → P := fun hx => by rw [beq_self_eq_true] at hx; cases hx
  refine ⟨fun c0 => ?_, fun c0 => ⟨fun c1 => ?_, fun c1 => ⟨fun c2 => ?_, fun c2 => ⟨fun c3 => ?_, fun c3 => ⟨fun c4 => ?_, fun c4 => ?_⟩⟩⟩⟩⟩
  all_goals
    (try simp only [beq_iff_eq, beq_eq_false_iff_ne, ne_eq] at c0)
    (try simp only [beq_iff_eq, beq_eq_false_iff_ne, ne_eq] at c1)
    (try simp only [beq_iff_eq, beq_eq_false_iff_ne, ne_eq] at c2)
    (try simp only [beq_iff_eq, beq_eq_false_iff_ne, ne_eq] at c3)
    (try simp only [beq_iff_eq, beq_eq_false_iff_ne, ne_eq] at c4)
  · have hs : stepB B a b c d = begB B c := by rw [stepB, if_pos c0]
    rw [hs]
    exact ⟨N1 _ hid, N2 _ hid, fun _ => ⟨fun _ => two_leafA (begB B c) _, fun hx => no hx⟩, fun hx => no hx⟩
  · have hs : stepB B a b c d = sbB B b c := by rw [stepB, if_neg c0, if_pos c1]
    rw [hs]
    exact ⟨N1 _ trivial, N2 _ trivial, fun _ => ⟨fun _ => two_leafA (sbB B b c) _, fun hx => no hx⟩, fun hx => no hx⟩
  · have hs : stepB B a b c d = akB B d c := by rw [stepB, if_neg c0, if_neg c1, if_pos c2]
    rw [hs]
    refine ⟨N1 _ trivial, N2 _ trivial, fun _ => ⟨fun _ => two_leafB (akB B d c) _ _, fun hx => no hx⟩, fun hx => ?_⟩
    simp at hx
  · have hs : stepB B a b c d = loB B d c := by rw [stepB, if_neg c0, if_neg c1, if_neg c2, if_pos c3]
    rw [hs]
    refine ⟨N1 _ trivial, N2 _ trivial, fun _ => ⟨fun _ => two_leafB (loB B d c) _ _, fun hx => no hx⟩, fun hx => ?_⟩
    simp at hx
  · have hs : stepB B a b c d = exB B c := by rw [stepB, if_neg c0, if_neg c1, if_neg c2, if_neg c3, if_pos c4]
    rw [hs]
    have hl : (exP B c).length ≤ most := by
      unfold exP most
      split
      · exact Nat.zero_le _
      · have := exP_len h c; omega
    refine ⟨N1 _ trivial, N2 _ trivial, ⟨⟨by omega, by omega, hl⟩, pkRow_G _ _, pkRow_G _ _⟩, fun _ => ⟨fun _ => two_leafB (exB B c) _ _, fun hx => no hx⟩, fun hx => ?_⟩
    rw [same_self] at hx
    cases hx
  · have hs : stepB B a b c d = tkB B := by rw [stepB, if_neg c0, if_neg c1, if_neg c2, if_neg c3, if_neg c4]
    rw [hs]
    have n1 : (B.ms.length = B.ms.length ∧ MiRow B.ms.length (miF fun j => B.ms.getD j Mi.zero)) ∧ B.Ok := ⟨⟨rfl, miRow_F _ _⟩, h⟩
    have n2 : ((B.ms.length = B.ms.length ∧ MiRow B.ms.length (miF fun j => B.ms.getD j Mi.zero)) ∧ B.L.es.length = B.L.es.length ∧ PkRow B.L.es.length (pkG B.L.es)) ∧ B.Ok := ⟨⟨⟨rfl, miRow_F _ _⟩, rfl, pkRow_G _ _⟩, h⟩
    refine ⟨n1, fun hk => ⟨n2, fun _ => ⟨fun _ => ?_, fun hx => ?_⟩, fun hx => ?_⟩, fun hk => ⟨n2, fun hx => ?_, fun _ => ⟨fun _ => ?_, fun hx => ?_⟩⟩⟩
    · have hk : tkP B := by simpa using hk
      have e2 : tkB B = ⟨B.L, B.now, B.ms.tail, B.id, B.tmo⟩ := by rw [tkB, if_pos hk]
      rw [e2]
      exact two_leafB ⟨B.L, B.now, B.ms.tail, B.id, B.tmo⟩ _ _
    · simp at hx
    · rw [hk] at hx; cases hx
    · rw [hk] at hx; cases hx
    · have hk : ¬ tkP B := by simpa using hk
      have e2 : tkB B = B := by rw [tkB, if_neg hk]
      rw [e2]
      exact two_leafB B _ _
    · cases hx

end Go.Proofs.Ythckkoledhjmeaa.Ev
