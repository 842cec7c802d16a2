/-
  Books: Expire, the program's and the document's.
-/
import Derived.Test.YthckkoledhjmeaaBY
namespace Go.Proofs.Ythckkoledhjmeaa.Ev
open Go

theorem e36ok : EntsOk Try.prog e36 := ⟨k36, k56, k81, s17ok, k63, trivial⟩
theorem e54ok : EntsOk Try.prog e54 := ⟨k54, k72, k40, s18ok, s78ok, sure_ok s79ok, s74ok, trivial⟩

def exR (l : Nat) (B : BSt) (at' : Int) : AV := .tup [.s (.sl l 4 0 (exP B at').length 0), .s (.d (.int .i64 (exE B at')))]

theorem exP_len {B : BSt} (h : B.Ok) (at' : Int) : (expP B.L at' B.tmo).length ≤ 4096 := by
  have h1 := h.led.len
  have h2 := h.led.room
  have h3 : (expP B.L at' B.tmo).length ≤ B.L.es.length := List.length_filter_le _ _
  omega

set_option maxRecDepth 100000 in
theorem expire36 (B : BSt) (h : B.Ok) (at' : Int) :
    CallsA Try.prog 36 [.e (.s (.ptr 0 0)), .d (.int .i64 at')] (bhp B) fun r H' => r = exR 5 B at' ∧ H' = bhp4 (exB B at') ++ [.row 36 4 (exP B at').length (pkG (exP B at'))] := by
  refine CallsA.re (calls_of fine e36ok 3 36 _ _ ?_)
  have htm := h.acc.tm
  have htmo := h.tmo
  show (t36 B.L B.ms.length (fun j => B.ms.getD j Mi.zero) B.now B.id B.tmo at').sat _ _
  rw [t36_eq]
  generalize hk : (T.go [false, false, true] (t36 B.L B.ms.length (fun j => B.ms.getD j Mi.zero) B.now B.id B.tmo at')).kontC = k
  by_cases he : earlyB B at'
  · have e10 : Re 4 [.tup [.s (.c (.slice none 0 0)), .s (.c (.int .i64 10))]] (bH B.L B.ms.length (miF fun j => B.ms.getD j Mi.zero) B.now B.id B.tmo) fun fr H2 => ∃ r2, fr = [r2] ∧ r2 = exR 5 B at' ∧ H2 = bhp4 (exB B at') ++ [.row 36 4 (exP B at').length (pkG (exP B at'))] := by
      have p0 : exP B at' = [] := by rw [exP, if_pos he]
      have b0 : exB B at' = B := by rw [exB, if_pos he]
      have x0 : exE B at' = 10 := by rw [exE, if_pos he]
      refine Re.nilTup 36 4 (pkG []) (by decide) (.toD (Re.ren [some 0, some 1, some 2, none, some 3, some 4] rfl rfl rfl (.refl ⟨_, rfl, ?_, ?_⟩)))
      · rw [exR, p0, x0]; rfl
      · rw [p0, b0]; rfl
    unfold earlyB at he
    refine ⟨fun _ => e10, fun c => ⟨fun _ => e10, fun c2 => ?_⟩⟩
    simp only [decide_eq_false_iff_not] at c c2
    omega
  · have hne := not_early he
    have p0 : exP B at' = expP B.L at' B.tmo := by rw [exP, if_neg he]
    have b0 : exB B at' = ⟨expL B.L at' B.tmo, at', (expP B.L at' B.tmo).foldl losM B.ms, B.id, B.tmo⟩ := by rw [exB, if_neg he]
    have x0 : exE B at' = 0 := by rw [exE, if_neg he]
    have hA := (h.acc.later hne.1 hne.2).exp (overX at' B.tmo)
    refine ⟨fun c => ?_, fun _ => ⟨fun c => ?_, fun _ => ⟨⟨h.led, by unfold I64; omega, by unfold I64; omega⟩, ?_⟩⟩⟩
    · simp only [decide_eq_true_eq] at c; omega
    · simp only [decide_eq_true_eq] at c; omega
    · refine (put64 (expL B.L at' B.tmo) (ms := B.ms) (id := B.id) (now := at') (ps := expP B.L at' B.tmo) (es := (expL B.L at' B.tmo).es) hA (by have := exP_len h at'; omega) at' B.id B.tmo).mono ?_
      rintro r H' ⟨rfl, rfl⟩
      subst hk
      show (t36k B.L B.ms.length (fun j => B.ms.getD j Mi.zero) B.now B.id B.tmo at' (fun j => ((expP B.L at' B.tmo).foldl losM B.ms).getD j Mi.zero)).sat _ _
      rw [t36k_eq]
      refine .toD (Re.ren [some 0, some 1, some 2, none, some 3, some 4] rfl rfl rfl (.refl ⟨_, rfl, ?_, ?_⟩))
      · rw [exR, p0, x0]
      · rw [p0, b0]
        simp only [bhp4, losM_len]
        rfl

set_option maxRecDepth 100000 in
theorem expire54 (B : BSt) (h : B.Ok) (at' : Int) :
    CallsA Try.prog 54 [.e (.s (.ptr 0 0)), .d (.int .i64 at')] (rhb B) fun r H' => r = exR 6 B at' ∧ H' = rhb4 (exB B at') ++ [.row 36 4 (exP B at').length (pkG (exP B at'))] := by
  refine CallsA.re (calls_of fine e54ok 3 54 _ _ ?_)
  have hlen := h.acc.len
  have htm := h.acc.tm
  have htmo := h.tmo
  show (t54 B.L B.L.es.length (pkG B.L.es) B.ms.length (fun j => B.ms.getD j Mi.zero) B.now B.id B.tmo at').sat _ _
  rw [t54_eq]
  generalize hk : (T.go [true, true, false, true] (t54 B.L B.L.es.length (pkG B.L.es) B.ms.length (fun j => B.ms.getD j Mi.zero) B.now B.id B.tmo at')).kont = kont
  by_cases he : earlyB B at'
  · have e10 : Re 4 [.tup [.s (.c (.slice none 0 0)), .s (.c (.int .i64 10))]] (rH B.L B.L.es.length (pkG B.L.es) B.ms.length (miF fun j => B.ms.getD j Mi.zero) B.now B.id B.tmo) fun fr H2 => ∃ r2, fr = [r2] ∧ r2 = exR 6 B at' ∧ H2 = rhb4 (exB B at') ++ [.row 36 4 (exP B at').length (pkG (exP B at'))] := by
      have p0 : exP B at' = [] := by rw [exP, if_pos he]
      have b0 : exB B at' = B := by rw [exB, if_pos he]
      have x0 : exE B at' = 10 := by rw [exE, if_pos he]
      refine Re.nilTup 36 4 (pkG []) (by decide) (.toD (Re.ren [some 0, some 1, none, none, some 2, some 3, some 4] rfl rfl rfl (.refl ⟨_, rfl, ?_, ?_⟩)))
      · rw [exR, p0, x0]; rfl
      · rw [p0, b0]; rfl
    unfold earlyB at he
    refine ⟨fun _ => ⟨fun c2 => ⟨fun _ => e10, fun c3 => ?_⟩, fun _ => e10⟩, fun _ => e10⟩
    simp only [decide_eq_false_iff_not, decide_eq_true_eq] at c2 c3
    omega
  · have hne := not_early he
    have p0 : exP B at' = expP B.L at' B.tmo := by rw [exP, if_neg he]
    have b0 : exB B at' = ⟨expL B.L at' B.tmo, at', (expP B.L at' B.tmo).foldl losM B.ms, B.id, B.tmo⟩ := by rw [exB, if_neg he]
    have x0 : exE B at' = 0 := by rw [exE, if_neg he]
    have hA := (h.acc.later hne.1 hne.2).exp (overX at' B.tmo)
    have heta : (⟨B.L.room, B.L.first, B.L.next, B.L.last, B.L.es⟩ : LSt) = B.L := rfl
    have hpl := exP_len h at'
    refine ⟨fun _ => ⟨fun _ => ⟨fun c => ?_, fun _ => ?_⟩, fun c => ?_⟩, fun c => ?_⟩
    · simp only [decide_eq_true_eq] at c; omega
    · rw [rowPk_pkG, heta]
      refine ⟨⟨⟨rfl, pkRow_G _ _⟩, h.led, by unfold I64; omega, by unfold I64; omega⟩, ?_⟩
      have hA' : Acc (expP B.L at' B.tmo ++ (expL B.L at' B.tmo).es) B.ms B.id at' := hA
      generalize hps : expP B.L at' B.tmo = ps at *
      generalize hL2 : expL B.L at' B.tmo = L2 at *
      have hn : ∀ (xs : List AV) (H : Heap), (∃ i : Nat, i ≤ ps.length ∧ xs = x54 at' ps.length i ∧ H = rH4' L2 L2.es.length (pkG L2.es) B.ms.length (miF fun j => ((ps.take i).foldl losM B.ms).getD j Mi.zero) B.now B.id B.tmo ps.length (pkF fun j => ps.getD j Pkt.zero) ∧ Acc (ps.drop i ++ L2.es) ((ps.take i).foldl losM B.ms) B.id at') → 4 ≤ H.length := by
        rintro xs H ⟨i, _, _, rfl, _⟩; show 4 ≤ 7; omega
      refine code_loop fine e54ok 2 (live := [0, 1, 6, 7]) (N := 53) kl54
        (fun xs H => ∃ i : Nat, i ≤ ps.length ∧ xs = x54 at' ps.length i ∧ H = rH4' L2 L2.es.length (pkG L2.es) B.ms.length (miF fun j => ((ps.take i).foldl losM B.ms).getD j Mi.zero) B.now B.id B.tmo ps.length (pkF fun j => ps.getD j Pkt.zero) ∧ Acc (ps.drop i ++ L2.es) ((ps.take i).foldl losM B.ms) B.id at')
        (fun xs _ => ps.length - ctr 3 xs) hn ?_ rfl ?_
      · intro xs H vs hI
        cases hI with | intro i hI =>
        have hi := hI.1
        have hxs := hI.2.1
        have hH := hI.2.2.1
        have hac := hI.2.2.2
        clear hI
        rw [hxs, hH]
        have hcl : ((ps.take i).foldl losM B.ms).length = B.ms.length := losM_len _ _
        generalize hcur : (ps.take i).foldl losM B.ms = cur at hac hcl
        have e := t54b_eq L2 L2.es.length (pkG L2.es) B.ms.length (fun j => cur.getD j Mi.zero) B.now B.id B.tmo at' ps.length (fun j => ps.getD j Pkt.zero) i vs
        unfold t54b at e
        rw [e]
        refine ⟨fun hlt => ?_, fun hge => ?_⟩
        · have hlt : i < ps.length := by simpa using hlt
          obtain ⟨n1, n2⟩ := take_nextP hlt
          have hii : 0 + (i : Int).toNat = i := by omega
          have hMS : rowMi B.ms.length (miF fun j => cur.getD j Mi.zero) = cur := by rw [← hcl]; exact rowMi_miF cur
          rw [hii, hMS, rowPk_pkG]
          rw [rowPk_pkG, rowMi_miG]
          rw [n2] at hac
          generalize hp : ps.getD i Pkt.zero = p at *
          have hL := hac.lose.1
          have hac' := hac.lose.2
          have hfold : (ps.take (i + 1)).foldl losM B.ms = losM cur p := by rw [n1, List.foldl_append, hcur]; rfl
          have leaf : ∀ X1 X2 X3 X4 X5 : AB, Re 4 [.e (.s (.ptr 0 0)), .d (.int .i64 at'), .e (.s (.sl 6 4 0 ps.length 0)), .d (.int .i64 (IntKind.i64.wrap ((i : Int) + 1)))]
              [.cells 72 [.ptr 1 0, .sl 11 15 0 (putM cur (loseM (ofM cur p.mi) p.size)).length 0, .d (.int .i64 B.id), .d (.int .i64 B.tmo), .d (.int .i64 B.now)], .cells 44 (rc L2 10 L2.es.length), .dead, .dead, X1, X2, .row 36 4 ps.length (pkF fun j => ps.getD j Pkt.zero), X3, X4, X5, .row 36 4 L2.es.length (pkG L2.es), .row 80 15 (putM cur (loseM (ofM cur p.mi) p.size)).length (miG (putM cur (loseM (ofM cur p.mi) p.size)))]
              fun xs2 H2 => (∃ i : Nat, i ≤ ps.length ∧ xs2 = x54 at' ps.length i ∧ H2 = rH4' L2 L2.es.length (pkG L2.es) B.ms.length (miF fun j => ((ps.take i).foldl losM B.ms).getD j Mi.zero) B.now B.id B.tmo ps.length (pkF fun j => ps.getD j Pkt.zero) ∧ Acc (ps.drop i ++ L2.es) ((ps.take i).foldl losM B.ms) B.id at') ∧ ps.length - ctr 3 xs2 < ps.length - ctr 3 (x54 at' ps.length i) := by
            intro X1 X2 X3 X4 X5
            refine Re.ren [some 0, some 1, none, none, some 10, some 11, some 6] rfl rfl rfl (.refl ⟨⟨i + 1, by omega, ?_, ?_, ?_⟩, ?_⟩)
            · rw [wrap_succ (by omega)]; rfl
            · rw [hfold]
              simp only [putM_len, hcl]
              rfl
            · rw [hfold]; exact hac'
            · simp only [ctr, x54, List.getD_cons_succ, List.getD_cons_zero, asInt, Option.getD_some]
              rw [wrap_succ (by omega)]
              omega
          have N1 : ((B.ms.length = B.ms.length ∧ MiRow B.ms.length (miF fun j => cur.getD j Mi.zero)) ∧ L2.es.length = L2.es.length ∧ PkRow L2.es.length (pkG L2.es)) ∧ cur.length ≤ 64 := ⟨⟨⟨rfl, miRow_F _ _⟩, rfl, pkRow_G _ _⟩, by omega⟩
          have N2 : ((cur.length = cur.length ∧ MiRow cur.length (miG cur)) ∧ L2.es.length = L2.es.length ∧ PkRow L2.es.length (pkG L2.es)) ∧ cur.length ≤ 64 := ⟨⟨⟨rfl, miRow_G _ _⟩, rfl, pkRow_G _ _⟩, by omega⟩
          have A0 : (loseE (ofM cur p.mi) p.size == 0) = true := by rw [hL]; rfl
          exact ⟨⟨by omega, by omega⟩, by omega, ⟨by omega, by omega⟩, by omega, ⟨N1, rfl, ⟨A0, N2, leaf _ _ _ _ _⟩, ⟨rfl, A0, N2, leaf _ _ _ _ _⟩⟩, ⟨rfl, rfl, N1, rfl, A0, N2, leaf _ _ _ _ _⟩⟩
        · have hge : ps.length ≤ i := by simpa using hge
          have hi' : i = ps.length := by omega
          intro vs
          subst hk
          show (t54k B.L B.L.es.length (pkG B.L.es) B.ms.length (fun j => B.ms.getD j Mi.zero) B.now B.id B.tmo at' L2 L2.es.length (pkG L2.es) (fun j => cur.getD j Mi.zero) ps.length (fun j => ps.getD j Pkt.zero) i vs).sat _ _
          rw [t54k_eq]
          refine .toD (.refl ⟨_, rfl, ?_, ?_⟩)
          · rw [exR, p0, x0]; rfl
          · have hcur' : ps.foldl losM B.ms = cur := by rw [← hcur, hi', List.take_of_length_le (Nat.le_refl _)]
            rw [p0, b0, hcur']
            simp only [rhb4, hcl]
            rfl
      · refine .toDm [false, false, false, true] [] (Re.ren [some 0, some 1, none, none, some 4, some 3, some 5] rfl rfl rfl (.refl ⟨0, Nat.zero_le _, rfl, rfl, hA'⟩))
    · simp only [decide_eq_false_iff_not] at c; omega
    · simp only [decide_eq_false_iff_not] at c; omega

end Go.Proofs.Ythckkoledhjmeaa.Ev
