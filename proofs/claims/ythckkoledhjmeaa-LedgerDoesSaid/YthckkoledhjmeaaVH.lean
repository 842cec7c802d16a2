/-
  ledger.some, for any closure that parts the packets: what the call does.
-/
import Derived.Test.YthckkoledhjmeaaVG
namespace Go.Proofs.Ythckkoledhjmeaa.Ev
open Go

theorem fr0_rep {E : Env} {N : Nat} {f : SV} (hN : 0 < N) (hf : f.ref ≤ N) (hok : f.ok E) :
    FRep E N (fr0 f) { tmps := ([AV.e (.s (.ptr 0 0)), .e (.s f)].map (AV.conc E)).toArray ++ Array.replicate (27 - 2) undef, defers := [] } := by
  refine ⟨?_, ?_, ?_, rfl⟩
  · simp [fr0, AV.conc, undef]
  · intro x hx
    simp only [fr0, List.mem_append, List.mem_cons, List.not_mem_nil, or_false] at hx
    rcases hx with (rfl | rfl) | hx
    · exact hN
    · exact hf
    · rw [List.eq_of_mem_replicate hx]; exact Nat.zero_le _
  · intro x hx
    simp only [fr0, List.mem_append, List.mem_cons, List.not_mem_nil, or_false] at hx
    rcases hx with (rfl | rfl) | hx
    · exact ok_s.2 trivial
    · exact ok_s.2 hok
    · rw [List.eq_of_mem_replicate hx]; exact undef_ok

theorem und84 : ∃ k e, Try.prog.underlying 84 = some (.map k e) := ⟨_, _, Try.underlying84⟩

theorem noRo_set : ∀ {H : Heap} {l : Nat}, noRo H = true → noRo (H.set l .dead) = true
  | [], _, _ => rfl
  | B :: H, 0, h => by
    cases B with
    | ro k n g => cases h
    | cells ty cs => exact h
    | row ty k n g => exact h
    | lit ty k ch => exact h
    | pm es => exact h
    | dead => exact h
  | B :: H, l + 1, h => by
    cases B with
    | ro k n g => cases h
    | cells ty cs => exact noRo_set (H := H) h
    | row ty k n g => exact noRo_set (H := H) h
    | lit ty k ch => exact noRo_set (H := H) h
    | pm es => exact noRo_set (H := H) h
    | dead => exact noRo_set (H := H) h

/-- The sort, at a row that lies last. -/
theorem sort_last (H : Heap) (es : List Pkt) (hb : es.length < 4611686018427387904) :
    CallsA Try.prog 67 [.e (.s (.sl H.length 4 0 es.length 0)), .e (.s (.fn 68 []))] (H ++ [.row 36 4 es.length (pkG es)]) fun r H' =>
      r = .tup [] ∧ ∃ d : List Pkt, d.Perm es ∧ d.Pairwise (fun a b => a.seq ≤ b.seq) ∧ H' = H ++ [.row 36 4 d.length (pkG d)] := by
  refine CallsA.lift (args0 := [.e (.s (.sl 0 4 0 es.length 0)), .e (.s (.fn 68 []))]) (H0 := [.row 36 4 es.length (pkG es)]) [H.length] ?_ ?_ rfl (sort67 es hb) ?_ ?_
  · simp [renFr, AV.ren, EV.ren, SV.ren, posOf, renCaps]
  · simp [renH, AB.ren]
  · rintro r H' ⟨_, d, _, _, rfl⟩; rfl
  · rintro r H' ⟨rfl, d, h1, h2, rfl⟩
    refine ⟨rfl, d, h1, h2, ?_⟩
    simp [backH, backSet, AB.by]

set_option maxRecDepth 100000 in
theorem some41 {N : Nat} {H Hb : Heap} {f : SV} {es : List Pkt} {pred : Pkt → Bool} (S : Some41 N H Hb f es pred) (hmost : es.length ≤ most) :
    CallsA Try.prog 41 [.e (.s (.ptr 0 0)), .e (.s f)] H fun r H' => ∃ d : List Pkt, d.Perm (es.filter pred) ∧ d.Pairwise (fun a b => a.seq ≤ b.seq) ∧ r = .e (.s (.sl N 4 0 d.length 0)) ∧ H' = H ++ [.row 36 4 d.length (pkG d)] := by
  intro E w h ha
  have hlen := S.len
  have hf0 := ha (.e (.s f)) (by simp)
  have hfr := fr0_rep (E := E) (N := H.length) (f := f) (by rw [hlen]; exact Nat.lt_trans Nat.zero_lt_one S.pos) hf0.1 (ok_s.1 hf0.2)
  have hpre : (pre41 N ⟨fr0 f, H⟩).sat Try.prog (fun x => x = ([.e (.s f), .c (.slice none 0 0), .e (.s (.mp 1))], H)) := by rw [S.pre]; rfl
  unfold pre41 at hpre
  refine calls_of_wp Try.func41 body_f41 ?_
  rw [body41]
  refine wp_seq (wp_mono (code_sat fine (call_sat fine eSok.ent 1) (r41 [true]) E ⟨fr0 f, H⟩ _ w _ r41a_ok h hfr (Nat.le_of_eq hlen.symm) hpre) ?_)
  rintro e a1 w1 ⟨σ1, E1, s1, f1, q1⟩
  cases e with
  | normal =>
    refine wp_seq (wp_mono (code_sat fine (call_sat fine eSok.ent 1) (r41 [false, true]) E1 σ1 a1 w1 _ r41b_ok s1.rep f1 s1.len q1) ?_)
    rintro e a2 w2 ⟨σ2, E2, s2, f2, q2⟩
    cases e with
    | normal =>
      refine wp_seq (wp_seq (wp_region_list ?_))
      show wpList _ ops2 _ ops2.toList _ _
      rw [ops2_list]
      refine wpList_app pre4 _ _ (wpList_imp ?_ _ _ _ (reg_sat fine (call_sat fine eSok.ent 1) pre4 s2.rep f2 q2))
      rintro e a3 w3 ⟨σ3, E3, rfl, s3, f3, q3⟩
      unfold endR at q3
      split at q3
      · rename_i hb27
        have hl27 := Nat.eq_of_beq_eq_true hb27
        have hx : slim [1, 5, 11] σ3.fr = [.e (.s f), .c (.slice none 0 0), .e (.s (.mp 1))] ∧ σ3.H = H := by
          have := (Prod.mk.injEq _ _ _ _).mp q3
          exact this
        obtain ⟨hx, hH⟩ := hx
        have s123 : Step N E H w E3 σ3.H w3 := (s1.trans s2 (Nat.le_refl _)).trans s3 s2.len
        rw [hH] at s123 f3
        -- the map, and its iterator
        obtain ⟨ents, clock, hmap, hmr⟩ := s123.rep.rep 1 _ S.pm
        obtain ⟨pkO, hkv, hpk⟩ := map_facts hmr
        obtain ⟨kt, et, h84⟩ := und84
        have h11 : a3.eval (.tmp 11) = .map (some (E3.blk 1)) := by
          rw [f3.eval]
          have : opnd σ3.fr (.tmp 11) = .e (.s (.mp 1)) := congrArg (fun l : List AV => l.getD 2 undefA) hx
          rw [this]
          rfl
        refine wpList_go rg_guard (v := .pointer (some ⟨w3.heap.size, 0, none⟩)) (w' := w3.alloc (.mapIter (some (E3.blk 1)) clock #[] clock)) (by
          simp only [execOp, rg_op, h11, Sem.run_bind, run_range h84 hmap, Result.andThen_ok, Sem.run_pure]) ?_
        rw [rg_dst]
        have hHb : Hb.length = N := by rw [← S.hb, List.length_set, S.len]
        have hbm : E3.blk 1 < w3.heap.size := (Array.getElem?_eq_some_iff.1 hmap).1
        have sd := step_dead s123.rep 1
        rw [S.hb] at sd
        have sn := push_nil sd.rep (t := 36) (k := 4) (g := pkG []) (by decide)
        have g1 : opnd σ3.fr (.tmp 1) = .e (.s f) := congrArg (fun l : List AV => l.getD 0 undefA) hx
        have g5 : opnd σ3.fr (.tmp 5) = .c (.slice none 0 0) := congrArg (fun l : List AV => l.getD 1 undefA) hx
        have hfr : f.ref ≤ N := by have := f3.opnd_ref (.tmp 1); rw [g1, S.len] at this; exact this
        have hfo : f.ok E3 := by have := f3.opnd_ok (.tmp 1); rw [g1] at this; exact ok_s.1 this
        have f4 := (f3.put (some 12) (.d (.pointer (some ⟨w3.heap.size, 0, none⟩))) (Nat.zero_le _) (ok_s.2 trivial))
        obtain ⟨vs0, f5⟩ := f4.slim [1, 5, 12]
        have hsl : slim [1, 5, 12] (put σ3.fr (some 12) (.d (.pointer (some ⟨w3.heap.size, 0, none⟩)))) = [.e (.s f), .c (.slice none 0 0), .d (.pointer (some ⟨w3.heap.size, 0, none⟩))] := by
          simp only [slim, List.map_cons, List.map_nil, put, List.cons.injEq, and_true]
          refine ⟨?_, ?_, ?_⟩
          · rw [← g1]; simp [opnd]
          · rw [← g5]; simp [opnd]
          · simp [hl27]
        have hln : (put σ3.fr (some 12) (.d (.pointer (some ⟨w3.heap.size, 0, none⟩)))).length = 27 := by simp [put, hl27]
        rw [hsl, hln] at f5
        have f6 := f5.fat (E2 := E3.push Hb.length 0 0 0 true) (n2 := Hb.length + 1) (ys := xs41 f Hb.length 0 w3.heap.size) (by
          have : f.conc (E3.push Hb.length 0 0 0 true) = f.conc E3 := SV.conc_agree sn.agree (by rw [hHb]; exact hfr)
          have e2 : (SV.sl Hb.length 4 0 0 0).conc (E3.push Hb.length 0 0 0 true) = .slice none 0 0 := by simp [SV.conc]
          simp only [xs41, List.map_cons, List.map_nil, AV.conc, EV.conc, this, e2]
          rfl) (by
          intro x hx
          simp only [xs41, List.mem_cons, List.not_mem_nil, or_false] at hx
          rcases hx with rfl | rfl | rfl
          · exact ⟨by rw [hHb]; exact Nat.le_succ_of_le hfr, ok_s.2 (SV.ok_agree sn.agree (by rw [hHb]; exact hfr) hfo)⟩
          · exact ⟨Nat.le_refl _, ok_s.2 ⟨fun _ => rfl, fun hh => by simp at hh⟩⟩
          · exact ⟨Nat.zero_le _, ok_s.2 trivial⟩)
        have sw : Step Hb.length E3 Hb w3 (E3.push Hb.length 0 0 0 true) (Hb ++ [.row 36 4 0 (pkG [])]) (w3.alloc (.mapIter (some (E3.blk 1)) clock #[] clock)) := step_alloc_out sn _
        have hri : ¬ Im (E3.push Hb.length 0 0 0 true) (Hb ++ [.row 36 4 0 (pkG [])]) w3.heap.size := fun hi => Nat.lt_irrefl _ (Im.lt sn.rep hi)
        have hbi : ¬ Im E3 Hb (E3.blk 1) := by
          rintro ⟨x, C, hxc, ho, he⟩
          rw [← S.hb] at hxc
          rcases get_set hxc with ⟨k1, k2⟩ | ⟨_, rfl, _⟩
          · exact k1 (s123.rep.inj x 1 C _ k2 S.pm ho rfl he)
          · cases ho
        have hroHb : noRo Hb = true := by rw [← S.hb]; exact noRo_set S.ro
        have hit : Iter (w3.alloc (.mapIter (some (E3.blk 1)) clock #[] clock)) w3.heap.size (E3.blk 1) ents clock ents.toList := by
          refine ⟨by rw [heap_alloc_old w3 _ hbm]; exact hmap, clock, #[], clock, heap_alloc_new w3 _, Nat.le_refl _, Nat.le_refl _, fun x hx => hmr.young x hx, ?_⟩
          simp [leftOf]; exact (List.filter_eq_self.2 fun _ _ => rfl).symm
        have hle : ents.toList.length = es.length := by rw [← hpk, List.length_map]
        have hrounds := rounds41 (E0 := E3) (w0 := w3) (f := f) hmr.born (by omega) (Nat.le_refl _) hbm hbi hroHb pred pkO hkv S.round (ents.toList.length + 1) ents.toList [] (E3.push Hb.length 0 0 0 true) _ _ vs0 (by omega) (by simp only [List.length_nil]; omega) hit sw f6 hri
        refine wp_block (wp_mono (wp_loop_rounds _ hrounds) ?_)
        rintro e a5 w5 ⟨out, E5, vs5, rfl, s5, f7, hmap5, hperm⟩
        simp only [Exit.inBlock, if_true, Exit.then]
        rw [hpk, List.nil_append] at hperm
        have hlt1 : 1 < H.length := by rw [hlen]; exact S.pos
        have hset : (H ++ [AB.row 36 4 out.length (pkG out)]).set 1 .dead = Hb ++ [AB.row 36 4 out.length (pkG out)] := by
          rw [List.set_append_left _ _ hlt1, S.hb]
        have hshow : Step N E3 H w3 E5 (H ++ [AB.row 36 4 out.length (pkG out)]) w5 := by
          refine step_show (l := 1) s123.rep S.pm S.pos ?_ ?_ ?_ ?_
          · rw [S.hb, hset, ← hHb]; exact s5
          · rw [List.getElem?_append_left hlt1]; exact S.pm
          · rw [hmap5, hmap]
          · exact noRo_app S.ro rfl
        have sall : Step N E H w E5 (H ++ [AB.row 36 4 out.length (pkG out)]) w5 := s123.trans hshow (Nat.le_refl _)
        have hol : out.length ≤ es.length := by rw [hperm.length_eq]; exact List.length_filter_le _ _
        obtain ⟨k, hk1, hk2⟩ := S.post (.d (.pointer (some ⟨w3.heap.size, 0, none⟩))) vs5 out.length (pkG out)
        have hpost : (post41 N ⟨fat [1, 5, 12] vs5 [.e (.s f), .e (.s (.sl N 4 0 out.length 0)), .e (.s (.d (.pointer (some ⟨w3.heap.size, 0, none⟩))))] 27 0, H ++ [.row 36 4 out.length (pkG out)]⟩).sat Try.prog fun x =>
            ∃ d : List Pkt, d.Perm (es.filter pred) ∧ d.Pairwise (fun a b => a.seq ≤ b.seq) ∧ x.1 = .e (.s (.sl N 4 0 d.length 0)) ∧ x.2 = H ++ [.row 36 4 d.length (pkG d)] := by
          rw [hk1]
          have hs := sort_last H out (by unfold most at hmost; omega)
          rw [hlen] at hs
          refine CallsA.mono hs ?_
          rintro r H' ⟨rfl, d, d1, d2, rfl⟩
          have hdl := d1.length_eq
          rw [hdl, hk2]
          exact ⟨d, d1.trans hperm, d2, by rw [hdl], by rw [hdl]⟩
        unfold post41 at hpost
        rw [hHb] at f7
        have f8 : FRep E5 (H ++ [AB.row 36 4 out.length (pkG out)]).length (fat [1, 5, 12] vs5 [.e (.s f), .e (.s (.sl N 4 0 out.length 0)), .e (.s (.d (.pointer (some ⟨w3.heap.size, 0, none⟩))))] 27 0) a5 := by
          have : (H ++ [AB.row 36 4 out.length (pkG out)]).length = N + 1 := by simp [hlen]
          rw [this]
          exact f7
        refine wp_mono (code_sat fine (call_sat fine eSok.ent 1) (r41 [false, false, false]) E5 ⟨_, H ++ [.row 36 4 out.length (pkG out)]⟩ a5 w5 _ r41c_ok sall.rep f8 sall.len hpost) ?_
        rintro e a6 w6 ⟨σ6, E6, s6, f9, q6⟩
        cases e with
        | ret =>
          obtain ⟨r, H', v1, v2, v3, v4, d, v5, v6, v7, v8⟩ := ret_sat Try.f41 (sall.trans s6 (Nat.le_refl _)) f9 q6
          rw [hlen]
          exact ⟨f9.defers, _, v1, r, H', E6, rfl, v2, v3, v4, d, v5, v6, v7, v8⟩
        | normal => exact q6.elim
        | exit id => exact q6.elim
        | goto l => exact q6.elim
        | panic ch => exact q6.elim
        | outgrown => exact q6.elim
      · exact q3.elim
    | exit id => exact q2.elim
    | goto l => exact q2.elim
    | ret => exact q2.elim
    | panic ch => exact q2.elim
    | outgrown => exact q2.elim
  | exit id => exact q1.elim
  | goto l => exact q1.elim
  | ret => exact q1.elim
  | panic ch => exact q1.elim
  | outgrown => exact q1.elim

end Go.Proofs.Ythckkoledhjmeaa.Ev
