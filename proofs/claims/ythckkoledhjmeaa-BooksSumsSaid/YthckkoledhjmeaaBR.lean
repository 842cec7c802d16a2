/-
  Loops over accounts: ends are put into books; an account in place of another; an account by its Id.
-/
import Derived.Test.YthckkoledhjmeaaBQ
namespace Go.Proofs.Ythckkoledhjmeaa.Ev
open Go

theorem e64ok : EntsOk Try.prog e64 := ⟨k64, k85, s70ok, trivial⟩
theorem e74ok : EntsOk Try.prog e74 := ⟨k74, trivial⟩
theorem e78ok : EntsOk Try.prog e78 := ⟨k78, trivial⟩

theorem losM_len (ps : List Pkt) : ∀ ms : List Mi, (ps.foldl losM ms).length = ms.length := by
  induction ps with
  | nil => intro ms; rfl
  | cons p ps ih => intro ms; rw [List.foldl_cons, ih, losM, putM_len]

theorem take_nextP {ps : List Pkt} {i : Nat} (h : i < ps.length) : ps.take (i + 1) = ps.take i ++ [ps.getD i Pkt.zero] ∧ ps.drop i = ps.getD i Pkt.zero :: ps.drop (i + 1) := by
  rw [List.getD_eq_getElem?_getD, List.getElem?_eq_getElem h]
  exact ⟨List.take_succ_eq_append_getElem h, List.drop_eq_getElem_cons h⟩

theorem take_nextM {ms : List Mi} {i : Nat} (h : i < ms.length) : ms.take (i + 1) = ms.take i ++ [ms.getD i Mi.zero] := by
  rw [getD_lt h]
  exact List.take_succ_eq_append_getElem h

set_option maxRecDepth 100000 in
theorem put64 (L : LSt) {ms : List Mi} {id now : Int} {ps es : List Pkt} (hA : Acc (ps ++ es) ms id now) (hps : ps.length ≤ 1000000) (now' id' tmo : Int) :
    CallsA Try.prog 64 [.e (.s (.ptr 0 0)), .e (.agg [.fn 85 []]), .e (.s (.sl 4 4 0 ps.length 0))] (bH L ms.length (miG ms) now' id' tmo ++ [.row 36 4 ps.length (pkG ps)]) fun r H' =>
      r = .d (.int .i64 0) ∧ H' = bH L ms.length (miG (ps.foldl losM ms)) now' id' tmo ++ [.row 36 4 ps.length (pkG ps)] := by
  refine CallsA.re (calls_of fine e64ok 3 64 _ _ ?_)
  show (t64 L ms.length (fun j => ms.getD j Mi.zero) now' id' tmo ps.length (fun j => ps.getD j Pkt.zero)).sat _ _
  rw [t64_eq]
  generalize hk : (T.go [] (t64 L ms.length (fun j => ms.getD j Mi.zero) now' id' tmo ps.length (fun j => ps.getD j Pkt.zero))).kont = kont
  have hn : ∀ (xs : List AV) (H : Heap), (∃ i : Nat, i ≤ ps.length ∧ xs = x64 ps.length i ∧ H = bH6 L ms.length (miG ((ps.take i).foldl losM ms)) now' id' tmo ps.length (pkG ps) ∧ Acc (ps.drop i ++ es) ((ps.take i).foldl losM ms) id now) → 5 ≤ H.length := by
    rintro xs H ⟨i, _, _, rfl, _⟩; show 5 ≤ 6; omega
  refine code_loop fine e64ok 2 (live := [0, 4, 6, 12, 13, 14]) (N := 50) kl64
    (fun xs H => ∃ i : Nat, i ≤ ps.length ∧ xs = x64 ps.length i ∧ H = bH6 L ms.length (miG ((ps.take i).foldl losM ms)) now' id' tmo ps.length (pkG ps) ∧ Acc (ps.drop i ++ es) ((ps.take i).foldl losM ms) id now)
    (fun xs _ => ps.length - ctr 5 xs) hn ?_ rfl ?_
  · intro xs H vs hI
    cases hI with | intro i hI =>
    have hi := hI.1
    have hxs := hI.2.1
    have hH := hI.2.2.1
    have hac := hI.2.2.2
    clear hI
    rw [hxs, hH]
    have hcl : ((ps.take i).foldl losM ms).length = ms.length := losM_len _ _
    generalize hcur : (ps.take i).foldl losM ms = cur at hac hcl
    rw [← hcl]
    have e := t64b_eq L cur.length (fun j => cur.getD j Mi.zero) now' id' tmo ps.length (fun j => ps.getD j Pkt.zero) i vs
    unfold t64b at e
    show (bodyT Try.prog e64 2 o64 5 (loopAt Try.prog 64 0) [0, 4, 6, 12, 13, 14] 50 (x64 ps.length i) (bH6 L cur.length (miF fun j => cur.getD j Mi.zero) now' id' tmo ps.length (pkF fun j => ps.getD j Pkt.zero)) vs).sat _ _
    rw [e]
    refine ⟨fun hlt => ?_, fun hge => ?_⟩
    · have hlt : i < ps.length := by simpa using hlt
      obtain ⟨n1, n2⟩ := take_nextP hlt
      have hii : 0 + (i : Int).toNat = i := by omega
      rw [hii]
      rw [n2] at hac
      generalize hp : ps.getD i Pkt.zero = p at *
      obtain ⟨j, hj, e1, e2, e3⟩ := hac.index (List.mem_cons_self ..)
      have hL := hac.lose.1
      have hac' := hac.lose.2
      rw [e3] at hL hac'
      have h0 := hac.ids 0 (by omega)
      have hlen := hac.len
      have w1 : IntKind.i64.wrap (p.mi - (cur.getD 0 Mi.zero).id) = (j : Int) := by
        have : p.mi - (cur.getD 0 Mi.zero).id = j := by omega
        rw [this]
        exact wrap64 (by unfold I64; omega)
      rw [w1]
      have hjj : 0 + (j : Int).toNat = j := by omega
      rw [hjj]
      have hset := putM_set hac.ids hj (m := loseM (cur.getD j Mi.zero) p.size) rfl
      have leaf : Re 5 (x64 ps.length (IntKind.i64.wrap ((i : Int) + 1))) (bH L cur.length (spliceG (miG cur) j 0 (loseM (cur.getD j Mi.zero) p.size).vals) now' id' tmo ++ [.row 36 4 ps.length (pkG ps), .cells 110 [.fn 85 []], .cells 36 p.cells, .cells 80 (loseM (cur.getD j Mi.zero) p.size).cells])
          fun xs2 H2 => (∃ i : Nat, i ≤ ps.length ∧ xs2 = x64 ps.length i ∧ H2 = bH6 L cur.length (miG ((ps.take i).foldl losM ms)) now' id' tmo ps.length (pkG ps) ∧ Acc (ps.drop i ++ es) ((ps.take i).foldl losM ms) id now) ∧ ps.length - ctr 5 xs2 < ps.length - ctr 5 (x64 ps.length i) := by
        have hfold : (ps.take (i + 1)).foldl losM ms = putM cur (loseM (cur.getD j Mi.zero) p.size) := by
          rw [n1, List.foldl_append, hcur]
          show losM cur p = _
          rw [losM, e3]
        refine Re.row 3 (miG (putM cur (loseM (cur.getD j Mi.zero) p.size))) rfl (fun x hx => by rw [hset, splice_mi hj _ x hx]) (Re.ren [some 0, some 1, some 2, some 3, some 4, some 5] rfl rfl rfl (.refl ⟨⟨i + 1, by omega, ?_, ?_, ?_⟩, ?_⟩))
        · rw [wrap_succ (by omega)]; rfl
        · rw [hfold]; rfl
        · rw [hfold]; exact hac'
        · simp only [ctr, x64, List.getD_cons_succ, List.getD_cons_zero, asInt, Option.getD_some]
          rw [wrap_succ (by omega)]
          omega
      have no : ∀ c : Bool, (loseE (cur.getD j Mi.zero) p.size == 0) = c → c = true := by
        intro c hc; rw [hL] at hc; exact hc.symm
      refine ⟨⟨by omega, by omega⟩, by omega, ⟨by omega, by omega⟩, by omega, ⟨by omega, by omega⟩, by omega, ⟨fun _ => ⟨by omega, leaf⟩, fun c => ?_⟩, ⟨rfl, rfl, rfl, fun _ => ⟨by omega, leaf⟩, fun c => ?_⟩⟩
      · have := no _ c; cases this
      · have := no _ c; cases this
    · have hge : ps.length ≤ i := by simpa using hge
      have hi' : i = ps.length := by omega
      intro vs
      rw [hcl]
      subst hk
      show (t64k L ms.length (fun j => ms.getD j Mi.zero) now' id' tmo ps.length (fun j => ps.getD j Pkt.zero) (fun j => cur.getD j Mi.zero) i vs).sat _ _
      rw [t64k_eq]
      refine .toD (.refl ⟨_, rfl, rfl, ?_⟩)
      rw [← hcur, hi', List.take_of_length_le (Nat.le_refl _)]
      rfl
  · refine .toDm [false, false, true, false, false, true] [] (.refl ⟨0, Nat.zero_le _, rfl, rfl, hA⟩)

theorem putM_app (a b : List Mi) (m : Mi) : putM (a ++ b) m = putM a m ++ putM b m := by simp [putM]

def rH4 (L : LSt) (k : Nat) (pg : Nat → List Value) (n : Nat) (g : Nat → List Value) (now id tmo : Int) : Heap :=
  [.cells 72 [.ptr 1 0, .sl 4 15 0 n 0, .d (.int .i64 id), .d (.int .i64 tmo), .d (.int .i64 now)], .cells 44 (rc L 2 k), .row 36 4 k pg, .dead, .row 80 15 n g]

set_option maxRecDepth 100000 in
theorem put74 (L : LSt) (k : Nat) (pg : Nat → List Value) (ms : List Mi) (now id tmo : Int) (m : Mi) (hlen : ms.length ≤ 64) :
    CallsA Try.prog 74 [.e (.s (.ptr 0 0)), .e (.agg m.cells)] (rH L k pg ms.length (miG ms) now id tmo) fun r H' =>
      r = .tup [] ∧ H' = rH4 L k pg ms.length (miG (putM ms m)) now id tmo := by
  refine CallsA.re (calls_of fine e74ok 1 74 _ _ ?_)
  show (t74 L k pg ms.length (fun j => ms.getD j Mi.zero) now id tmo m).sat _ _
  rw [t74_eq]
  generalize hk : (T.go [] (t74 L k pg ms.length (fun j => ms.getD j Mi.zero) now id tmo m)).kont = kont
  have hn : ∀ (xs : List AV) (H : Heap), (∃ i : Nat, i ≤ ms.length ∧ xs = x74 i i ∧ H = rH L k pg ms.length (miF fun j => ms.getD j Mi.zero) now id tmo ++ [.cells 80 m.cells, .row 80 15 i (miG (putM (ms.take i) m))]) → 4 ≤ H.length := by
    rintro xs H ⟨i, _, _, rfl⟩; show 4 ≤ 6; omega
  refine code_loop fine e74ok 0 (live := [0, 3, 4, 5]) (N := 44) kl74
    (fun xs H => ∃ i : Nat, i ≤ ms.length ∧ xs = x74 i i ∧ H = rH L k pg ms.length (miF fun j => ms.getD j Mi.zero) now id tmo ++ [.cells 80 m.cells, .row 80 15 i (miG (putM (ms.take i) m))])
    (fun xs _ => ms.length - ctr 3 xs) hn ?_ rfl ?_
  · intro xs H vs hI
    cases hI with | intro i hI =>
    have hi := hI.1
    have hxs := hI.2.1
    have hH := hI.2.2
    clear hI
    rw [hxs, hH]
    have hcl : (putM (ms.take i) m).length = i := by rw [putM_len, List.length_take]; omega
    generalize hcur : putM (ms.take i) m = cur at hcl
    have e := t74b_eq L k pg ms.length (fun j => ms.getD j Mi.zero) now id tmo m i (miG cur) i vs
    unfold t74b at e
    rw [e]
    have next : ∀ m2 : Mi, i < ms.length → (if (ms.getD i Mi.zero).id = m.id then m else ms.getD i Mi.zero) = m2 → ∀ (H7 : AB) (g2 : Nat → List Value), g2 0 = m2.vals → Re 4 [.e (.s (.ptr 0 0)), .e (.s (.ptr 4 0)), .e (.s (.sl 7 15 0 (i + 1) 0)), .d (.int .i64 (IntKind.i64.wrap ((i : Int) + 1)))]
        (rH L k pg ms.length (miF fun j => ms.getD j Mi.zero) now id tmo ++ [.cells 80 m.cells, .dead, H7, .row 80 15 (i + 1) (appendG (miG cur) 0 i g2 0)])
        fun xs2 H2 => (∃ i : Nat, i ≤ ms.length ∧ xs2 = x74 i i ∧ H2 = rH L k pg ms.length (miF fun j => ms.getD j Mi.zero) now id tmo ++ [.cells 80 m.cells, .row 80 15 i (miG (putM (ms.take i) m))]) ∧ ms.length - ctr 3 xs2 < ms.length - ctr 3 (x74 i i) := by
      intro m2 hlt hm2 H7 g2 h2
      have hnx : putM (ms.take (i + 1)) m = cur ++ [m2] := by
        rw [take_nextM hlt, putM_app, hcur, ← hm2]; rfl
      refine Re.row 7 (miG (cur ++ [m2])) rfl (app_mi cur m2 hcl.symm (fun _ _ => rfl) h2) (Re.ren [some 0, some 1, some 2, some 3, some 4, some 7] rfl rfl rfl (.refl ⟨⟨i + 1, by omega, ?_, ?_⟩, ?_⟩))
      · rw [wrap_succ (by omega)]; rfl
      · rw [hnx]; rfl
      · simp only [ctr, x74, List.getD_cons_succ, List.getD_cons_zero, asInt, Option.getD_some]
        rw [wrap_succ (by omega)]
        omega
    refine ⟨fun hlt => ?_, fun hge => ?_⟩
    · have hlt : i < ms.length := by simpa using hlt
      have hii : 0 + (i : Int).toNat = i := by omega
      rw [hii]
      refine ⟨⟨by omega, by omega⟩, by omega, fun hm => ⟨⟨by omega, by simp [chunks_len], by unfold most; omega⟩, ?_⟩, fun hm => ⟨⟨by omega, by omega⟩, by omega, ⟨by omega, by simp [chunks_len], by unfold most; omega⟩, ?_⟩⟩
      · exact next m hlt (by rw [if_pos (beq_iff_eq.1 hm)]) _ _ rfl
      · exact next _ hlt (by rw [if_neg (beq_eq_false_iff_ne.1 hm)]) _ _ rfl
    · have hge : ms.length ≤ i := by simpa using hge
      have hi' : i = ms.length := by omega
      intro vs
      subst hk
      show (t74k L k pg ms.length (fun j => ms.getD j Mi.zero) now id tmo m i (miG cur) i vs).sat _ _
      rw [t74k_eq]
      refine Re.ren [some 0, some 1, some 2, none, some 5] rfl rfl rfl (.refl ⟨_, rfl, rfl, ?_⟩)
      rw [← hcur, hi', List.take_of_length_le (Nat.le_refl _)]
      rfl
  · refine .toDm [false, false, false, true] [] (Re.nil 2 80 15 (miG []) (by decide) rfl (.refl ⟨0, Nat.zero_le _, rfl, rfl⟩))

theorem ofM_at {ms : List Mi} {a : Int} {i : Nat} (hi : i < ms.length) (h : (ms.getD i Mi.zero).id = a) (hb : ∀ j, j < i → (ms.getD j Mi.zero).id ≠ a) : ofM ms a = ms.getD i Mi.zero := by
  unfold ofM
  have : ms.find? (fun x => x.id == a) = some (ms.getD i Mi.zero) := by
    rw [List.find?_eq_some_iff_getElem]
    refine ⟨by simpa using h, i, hi, (getD_lt hi).symm, fun j hj => ?_⟩
    have := hb j hj
    rw [getD_lt (by omega)] at this
    simpa using this
  rw [this]; rfl

theorem ofM_no {ms : List Mi} {a : Int} (hb : ∀ j, j < ms.length → (ms.getD j Mi.zero).id ≠ a) : ofM ms a = Mi.zero := by
  unfold ofM
  have : ms.find? (fun x => x.id == a) = none := by
    rw [List.find?_eq_none]
    intro x hx
    obtain ⟨j, hj, rfl⟩ := List.getElem_of_mem hx
    have := hb j hj
    rw [getD_lt hj] at this
    simpa using this
  rw [this]; rfl

set_option maxRecDepth 100000 in
theorem of78 (L : LSt) (k : Nat) (pg : Nat → List Value) (ms : List Mi) (now id tmo : Int) (a : Int) (hlen : ms.length ≤ 64) :
    CallsA Try.prog 78 [.e (.s (.ptr 0 0)), .d (.int .i64 a)] (rH L k pg ms.length (miG ms) now id tmo) fun r H' =>
      r = .e (.agg (ofM ms a).cells) ∧ H' = rH L k pg ms.length (miG ms) now id tmo := by
  refine CallsA.re (calls_of fine e78ok 1 78 _ _ ?_)
  show (t78 L k pg ms.length (fun j => ms.getD j Mi.zero) now id tmo a).sat _ _
  rw [t78_eq]
  generalize hk : (T.go [] (t78 L k pg ms.length (fun j => ms.getD j Mi.zero) now id tmo a)).kont = kont
  have hn : ∀ (xs : List AV) (H : Heap), (∃ i : Nat, i ≤ ms.length ∧ xs = x78 a i ∧ H = rH L k pg ms.length (miF fun j => ms.getD j Mi.zero) now id tmo ++ [.cells 80 Mi.zero.cells] ∧ ∀ j, j < i → (ms.getD j Mi.zero).id ≠ a) → 4 ≤ H.length := by
    rintro xs H ⟨i, _, _, rfl, _⟩; show 4 ≤ 5; omega
  refine code_loop fine e78ok 0 (live := [0, 1, 4, 5]) (N := 33) kl78
    (fun xs H => ∃ i : Nat, i ≤ ms.length ∧ xs = x78 a i ∧ H = rH L k pg ms.length (miF fun j => ms.getD j Mi.zero) now id tmo ++ [.cells 80 Mi.zero.cells] ∧ ∀ j, j < i → (ms.getD j Mi.zero).id ≠ a)
    (fun xs _ => ms.length - ctr 3 xs) hn ?_ rfl ?_
  · intro xs H vs hI
    cases hI with | intro i hI =>
    have hi := hI.1
    have hxs := hI.2.1
    have hH := hI.2.2.1
    have hb := hI.2.2.2
    clear hI
    rw [hxs, hH]
    have e := t78b_eq L k pg ms.length (fun j => ms.getD j Mi.zero) now id tmo a Mi.zero i vs
    unfold t78b at e
    rw [e]
    refine ⟨fun hlt => ?_, fun hge => ?_⟩
    · have hlt : i < ms.length := by simpa using hlt
      have hii : 0 + (i : Int).toNat = i := by omega
      rw [hii]
      refine ⟨⟨by omega, by omega⟩, by omega, fun hm => ⟨⟨by omega, by omega⟩, by omega, ?_⟩, fun hm => ?_⟩
      · intro vs
        subst hk
        show (t78r L k pg ms.length (fun j => ms.getD j Mi.zero) now id tmo a (ms.getD i Mi.zero) i vs).sat _ _
        rw [t78r_eq]
        refine .refl ⟨_, rfl, ?_, rfl⟩
        rw [ofM_at hlt (beq_iff_eq.1 hm) hb]
        rfl
      · refine .refl ⟨⟨i + 1, by omega, ?_, rfl, fun j hj => ?_⟩, ?_⟩
        · rw [wrap_succ (by omega)]; rfl
        · rcases Nat.lt_succ_iff_lt_or_eq.1 hj with hj | rfl
          · exact hb j hj
          · exact beq_eq_false_iff_ne.1 hm
        · simp only [ctr, x78, List.getD_cons_succ, List.getD_cons_zero, asInt, Option.getD_some]
          rw [wrap_succ (by omega)]
          omega
    · have hge : ms.length ≤ i := by simpa using hge
      have hi' : i = ms.length := by omega
      intro vs
      subst hk
      show (t78k L k pg ms.length (fun j => ms.getD j Mi.zero) now id tmo a Mi.zero i vs).sat _ _
      rw [t78k_eq]
      refine .toDm [true] [] (.refl ⟨_, rfl, ?_, rfl⟩)
      rw [ofM_no (fun j hj => hb j (by omega))]
      rfl
  · refine .toDm [false, false, false, true] [false, false, false, false, true] (.refl ⟨0, Nat.zero_le _, rfl, rfl, fun j hj => by cases hj⟩)

end Go.Proofs.Ythckkoledhjmeaa.Ev
