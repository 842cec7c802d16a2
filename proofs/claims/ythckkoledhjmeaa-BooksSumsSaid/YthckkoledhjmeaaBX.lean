/-
  A slice from its second element on becomes a row of its own; a nil slice in a pair; the document's Take.
-/
import Derived.Test.YthckkoledhjmeaaBW
namespace Go.Proofs.Ythckkoledhjmeaa.Ev
open Go

/-- A slice from the second element on, among a variable's cells, becomes a row of its own. -/
theorem Re.shift {n0 : Nat} {fr : List AV} {H : Heap} {R : List AV → Heap → Prop} (l i lr ty k n : Nat) {cty : Nat} {cs : List SV} {g : Nat → List Value} (hl : H[l]? = some (.cells cty cs)) (hi : cs[i]? = some (.sl lr k 1 n 0)) (hr : H[lr]? = some (.row ty k (n + 1) g))
    (h : Re n0 fr ((H.set lr AB.dead ++ [AB.row ty k n (fun j => g (1 + j))]).set l (.cells cty (cs.set i (.sl H.length k 0 n 0)))) R) : Re n0 fr H R := by
  intro E w h1 h2 h3
  have hrow : RowR E w lr ty k (n + 1) g := h1.rep lr _ hr
  have hnil : E.nil lr = false := by
    cases hb : E.nil lr with
    | false => rfl
    | true => have := hrow.nil hb; omega
  have hcap := hrow.cap hnil
  obtain ⟨vs, hv1, hv2, hv3⟩ := hrow.mem hnil
  have hne : l ≠ lr := by intro e; subst e; rw [hl] at hr; cases hr
  have hlt : l < H.length := lt_of_get hl
  have hrlt : lr < H.length := lt_of_get hr
  have hst := step_move (w' := w) (E' := E.push H.length (E.blk lr) (E.base lr + (if 1 = E.cap lr then 0 else 1) * k) (E.cap lr - 1) false) (B := .row ty k n (fun j => g (1 + j))) h1 hr (by simp only [AB.own, hnil]; rfl) (Env.push_agree ..) (by simp)
    (by
      refine RowR.mk hrow.pos (fun hn => by simp at hn) (fun _ => by simp only [Env.push_cap]; omega) (fun _ => ⟨vs, by simp only [Env.push_blk]; exact hv1, fun hc => ?_, fun x hx y hy => ?_⟩) (fun x hx => hrow.len _ (by omega)) (fun x hx => hrow.one _ (by omega))
      · simp only [Env.push_cap, Env.push_base] at hc ⊢
        rw [if_neg (by omega)]
        have := hv2 (by omega)
        have e : E.cap lr = (E.cap lr - 1) + 1 := by omega
        rw [e, Nat.add_mul] at this
        omega
      · simp only [Env.push_base]
        rw [if_neg (by omega), ← hv3 (1 + x) (by omega) y hy]
        congr 1
        rw [Nat.add_mul]
        omega) trivial (fun _ _ _ => by simp) (fun _ _ => rfl) rfl rfl rfl rfl
  have hl' : (H.set lr AB.dead ++ [AB.row ty k n (fun j => g (1 + j))])[l]? = some (.cells cty cs) := by
    rw [List.getElem?_append_left (by simpa using hlt), List.getElem?_set_ne hne.symm]; exact hl
  have hrep := hst.rep.rep l _ hl'
  have hok := hst.rep.cells_ok hl'
  have hlt2 : i < cs.length := (List.getElem?_eq_some_iff.1 hi).1
  have hcs : (cs.set i (.sl H.length k 0 n 0)).map (SV.conc (E.push H.length (E.blk lr) (E.base lr + (if 1 = E.cap lr then 0 else 1) * k) (E.cap lr - 1) false)) = cs.map (SV.conc (E.push H.length (E.blk lr) (E.base lr + (if 1 = E.cap lr then 0 else 1) * k) (E.cap lr - 1) false)) := by
    rw [List.map_set]
    apply List.ext_getElem?
    intro j
    rw [List.getElem?_set]
    by_cases hj : i = j
    · subst hj
      have e2 := (List.getElem?_eq_some_iff.1 hi).2
      have hl3 : ¬ lr = H.length := by omega
      simp only [List.length_map, hlt2, if_true, List.getElem?_map, hi, Option.map_some]
      simp [SV.conc, Env.push, hl3, hnil]
    · rw [if_neg hj]
  have hset := step_set (w' := w) (B := .cells cty (cs.set i (.sl H.length k 0 n 0))) hst.rep hl' rfl (by simp only [BRep] at hrep ⊢; rw [hcs]; exact hrep) (by
    refine ⟨refs_le.2 fun x hx => ?_, fun x hx => ?_⟩
    · rcases List.mem_or_eq_of_mem_set hx with hx | rfl
      · exact refs_le.1 hok.1 x hx
      · simp [SV.ref]
    · rcases List.mem_or_eq_of_mem_set hx with hx | rfl
      · exact hok.2 x hx
      · exact ⟨fun hn => by simp at hn, fun _ => by simp only [Env.push_cap]; omega⟩) (fun _ _ _ => by simp) (fun _ _ => rfl) rfl rfl rfl rfl
  have hst2 := hst.trans hset (by simp)
  obtain ⟨fr3, H3, E3, k1, k2, k3, k4⟩ := h _ w hst2.rep (fun x hx => ⟨Nat.le_trans (h2 x hx).1 (by simp), AV.ok_agree hst.agree (h2 x hx).1 (h2 x hx).2⟩) (by simp; omega)
  refine ⟨fr3, H3, E3, (hst2.mono h3).trans k1 (Nat.le_refl _), ?_, k3, k4⟩
  rw [k2]
  exact List.map_congr_left fun x hx => AV.conc_agree hst.agree (h2 x hx).1

/-- A nil slice that is known, in a pair, becomes a row of none. -/
theorem Re.nilTup {n0 : Nat} {y : EV} {H : Heap} {R : List AV → Heap → Prop} (ty k : Nat) (g : Nat → List Value) (hk : 0 < k) (h : Re n0 [.tup [.s (.sl H.length k 0 0 0), y]] (H ++ [.row ty k 0 g]) R) : Re n0 [.tup [.s (.c (.slice none 0 0)), y]] H R := by
  intro E w h1 h2 h3
  have hst := push_nil h1 (t := ty) (k := k) (g := g) hk
  have hx := h2 _ (List.mem_singleton.2 rfl)
  have hy : (AV.tup [y]).ref ≤ H.length ∧ (AV.tup [y]).ok E := by
    refine ⟨?_, ?_⟩
    · have := hx.1
      simp only [AV.ref, List.foldr_cons, List.foldr_nil, EV.ref, SV.ref] at this ⊢
      omega
    · intro x hx'
      exact hx.2 x (by simp only [AV.svs, List.flatMap_cons, List.flatMap_nil, List.append_nil, EV.svs, List.mem_append] at hx' ⊢; exact .inr hx')
  have hy2 : (AV.tup [y]).ok (E.push H.length 0 0 0 true) := AV.ok_agree hst.agree hy.1 hy.2
  have hyc : (AV.tup [y]).conc (E.push H.length 0 0 0 true) = (AV.tup [y]).conc E := AV.conc_agree hst.agree hy.1
  obtain ⟨fr3, H3, E3, k1, k2, k3, k4⟩ := h _ w hst.rep (fun x hx2 => by
    rw [List.mem_singleton.1 hx2]
    refine ⟨?_, ?_⟩
    · have := hy.1
      simp only [AV.ref, List.foldr_cons, List.foldr_nil, EV.ref, SV.ref, List.length_append, List.length_singleton] at this ⊢
      omega
    · intro x hx'
      simp only [AV.svs, List.flatMap_cons, List.flatMap_nil, List.append_nil, EV.svs, List.mem_append, List.mem_singleton] at hx'
      rcases hx' with rfl | hx'
      · exact ⟨fun _ => rfl, fun hh => by simp at hh⟩
      · exact hy2 x (by simp only [AV.svs, List.flatMap_cons, List.flatMap_nil, List.append_nil]; exact hx')) (by simp; omega)
  refine ⟨fr3, H3, E3, (hst.mono h3).trans k1 (Nat.le_refl _), ?_, k3, k4⟩
  rw [k2]
  simp only [AV.conc, List.map_cons, List.map_nil] at hyc ⊢
  have : EV.conc (E.push H.length 0 0 0 true) y = EV.conc E y := by simpa using hyc
  rw [this]
  simp [EV.conc, SV.conc]

set_option maxRecDepth 100000 in
theorem take55 (B : BSt) (h : B.Ok) :
    CallsA Try.prog 55 [.e (.s (.ptr 0 0))] (rhb B) fun r H' => r = tkR B ∧ H' = rhb4 (tkB B) := by
  refine CallsA.re (calls_of fine e55ok 4 55 _ _ ?_)
  have hlen := h.acc.len
  show (t55 B.L B.L.es.length (pkG B.L.es) B.ms.length (fun j => B.ms.getD j Mi.zero) B.now B.id B.tmo).sat _ _
  have key : ¬ tkP B → Re 4 [.tup [.agg [.c (.int .i64 0), .c (.int .i64 0), .c (.int .i64 0), .c (.int .i64 0), .c (.int .i64 0), .c (.int .i64 0), .c (.int .i64 0), .c (.int .i64 0), .c (.int .i64 0), .c (.int .i64 0), .c (.int .i64 0), .c (.int .i64 0), .c (.int .i64 0), .c (.int .i64 0), .c (.int .i64 0)], .s (.c (.bool false))]] (rH B.L B.L.es.length (pkG B.L.es) B.ms.length (miF fun j => B.ms.getD j Mi.zero) B.now B.id B.tmo) fun fr H2 => ∃ r2, fr = [r2] ∧ r2 = tkR B ∧ H2 = rhb4 (tkB B) := by
    intro hn
    refine .toD (Re.ren [some 0, some 1, none, none, some 2, some 3] rfl rfl rfl (.refl ⟨_, rfl, ?_, ?_⟩))
    · simp [tkR, tkM, hn, AV.toD, EV.toD, SV.toD, Mi.zero, Mi.cells]
    · have : tkB B = B := by rw [tkB, if_neg hn]
      rw [this]; rfl
  rw [t55_eq]
  refine ⟨fun c => ?_, fun c => ?_⟩
  · have : B.ms.length = 0 := by have := beq_iff_eq.1 c; omega
    exact key fun hk => by have := hk.1; omega
  · have hn0 : B.ms.length ≠ 0 := by have := beq_eq_false_iff_ne.1 c; omega
    refine ⟨⟨by omega, by omega⟩, by omega, trivial, fun hd => ?_, fun hd => ?_⟩
    · have hd : (B.ms.getD 0 Mi.zero).DoneP := by simpa using hd
      have hk : tkP B := ⟨by omega, hd⟩
      have h1 : (B.ms.length : Int).toNat - Int.toNat 1 = B.ms.length - 1 := by rw [Int.toNat_natCast]; rfl
      have hB : tkB B = ⟨B.L, B.now, B.ms.tail, B.id, B.tmo⟩ := by rw [tkB, if_pos hk]
      rw [h1]
      refine ⟨⟨by omega, by omega⟩, by omega, ⟨by omega, by omega, by omega⟩, ?_⟩
      obtain ⟨n', hn'⟩ : ∃ n', B.ms.length = n' + 1 := ⟨B.ms.length - 1, by omega⟩
      rw [hn', Nat.add_sub_cancel]
      refine Re.shift (g := miF fun j => B.ms.getD j Mi.zero) 0 1 3 80 15 n' rfl rfl rfl ?_
      refine Re.row 4 (miG B.ms.tail) rfl (fun j _ => by show miG B.ms (1 + j) = _; rw [miG_get, miG_get, tail_get, Nat.add_comm]) (.toD (Re.ren [some 0, some 1, none, none, some 2, some 4] rfl rfl rfl (.refl ⟨_, rfl, ?_, ?_⟩)))
      · simp [tkR, tkM, hk, AV.toD, EV.toD, SV.toD, Mi.cells]
      · rw [hB]
        simp [rhb4, hn', AB.toD, SV.toD, rc]
    · have hd : ¬ (B.ms.getD 0 Mi.zero).DoneP := by simpa using hd
      exact key fun hk => hd hk.2

end Go.Proofs.Ythckkoledhjmeaa.Ev
