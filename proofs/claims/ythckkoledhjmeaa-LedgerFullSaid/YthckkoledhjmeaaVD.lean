/-
  ledger.some's loop.
-/
import Derived.Test.YthckkoledhjmeaaVC
namespace Go.Proofs.Ythckkoledhjmeaa.Ev
open Go

noncomputable def nx : Oper := opAt (sub [true] loop41) 0
noncomputable def ex : Oper := opAt (sub [true] loop41) 1
noncomputable def en : Oper := opAt (sub [false, false, false, true] loop41) 0

theorem r3_list : (opsOf (sub [true] loop41)).toList = [nx, ex] := by kernel_rfl
theorem r4_list : (opsOf (sub [false, false, false, true] loop41)).toList = en :: rest4 := by kernel_rfl
theorem nx_op : nx.op = .next (.tmp 12) false := by kernel_rfl
theorem nx_dst : nx.dst = some 13 := by kernel_rfl
theorem nx_guard : nx.guard = none := by kernel_rfl
theorem ex_op : ex.op = .extract (.tmp 13) 0 := by kernel_rfl
theorem ex_dst : ex.dst = some 14 := by kernel_rfl
theorem ex_guard : ex.guard = none := by kernel_rfl
theorem en_op : en.op = .entry (.tmp 12) := by kernel_rfl
theorem en_dst : en.dst = some 15 := by kernel_rfl
theorem en_guard : en.guard = none := by kernel_rfl
theorem tail41_ok : codeB oN tail41 = true := by kernel_rfl
theorem eSok : EntsOk Try.prog eS := ⟨k44, k42, trivial⟩

theorem wpList_go {P : Program} {ops : Array Oper} {Q : Exit → Act → World → Prop} {o : Oper} {rest : List Oper} {a : Act} {w w' : World} {v : Value} (hg : o.guard = none) (h : (execOp a.eval o).run P w = .ok (.value v) w') (hk : wpList P ops Q rest (a.put o.dst v) w') :
    wpList P ops Q (o :: rest) a w :=
  wpList_plain hg fun K hK => by
    unfold Oper.wp
    rw [h]
    exact hK _ _ hk

/-- The loop's frame. -/
def xs41 (f : SV) (L n : Nat) (r : Nat) : List AV := [.e (.s f), .e (.s (.sl L 4 0 n 0)), .d (.pointer (some ⟨r, 0, none⟩))]

def add41 (pred : Pkt → Bool) (out : List Pkt) (p : Pkt) : List Pkt := if pred p then out ++ [p] else out

theorem add41_len (pred : Pkt → Bool) (out : List Pkt) (p : Pkt) : (add41 pred out p).length ≤ out.length + 1 := by
  unfold add41
  split
  · simp
  · omega

structure Round41 (Hb : Heap) (f : SV) (pred : Pkt → Bool) : Prop where
  go : ∀ (vs : Nat → Value) (r : Nat) (p : Pkt) (out : List Pkt), out.length + 1 ≤ most →
    (round41 Hb.length ⟨fr41 vs f (.e (.s (.sl Hb.length 4 0 out.length 0))) (.d (.pointer (some ⟨r, 0, none⟩))) p.seq p, Hb ++ [.row 36 4 out.length (pkG out)]⟩).sat Try.prog fun x => x.1 = .normal ∧
      Re Hb.length x.2.1 x.2.2 fun xs H => xs = xs41 f Hb.length (add41 pred out p).length r ∧ H = Hb ++ [.row 36 4 (add41 pred out p).length (pkG (add41 pred out p))]

/-- Where the loop ends. -/
def End41 (E0 : Env) (w0 : World) (Hb : Heap) (f : SV) (r bm : Nat) (ents : Array MapEntry) (clock : Nat) (fin : List Pkt) (e : Exit) (a' : Act) (w' : World) : Prop :=
  ∃ (out : List Pkt) (E' : Env) (vs : Nat → Value), e = .exit 0 ∧ Step Hb.length E0 Hb w0 E' (Hb ++ [.row 36 4 out.length (pkG out)]) w' ∧
    FRep E' (Hb.length + 1) (fat [1, 5, 12] vs (xs41 f Hb.length out.length r) 27 0) a' ∧ w'.heap[bm]? = some (.map ents clock) ∧ out.Perm fin

theorem noRo_app : ∀ {H K : Heap}, noRo H = true → noRo K = true → noRo (H ++ K) = true
  | [], _, _, h => h
  | B :: H, K, h, h' => by
    cases B with
    | ro k n g => cases h
    | cells ty cs => exact noRo_app (H := H) h h'
    | row ty k n g => exact noRo_app (H := H) h h'
    | lit ty k ch => exact noRo_app (H := H) h h'
    | pm es => exact noRo_app (H := H) h h'
    | dead => exact noRo_app (H := H) h h'

set_option maxRecDepth 100000 in
theorem rounds41 {E0 : Env} {w0 : World} {Hb : Heap} {f : SV} {bm r clock : Nat} {ents : Array MapEntry} (hn : (ents.toList.map (·.born)).Nodup) (hrb : r ≠ bm) (hr0 : w0.heap.size ≤ r) (hbm : bm < w0.heap.size) (hbi : ¬ Im E0 Hb bm) (hro : noRo Hb = true)
    (pred : Pkt → Bool) (pkO : MapEntry → Pkt) (hkv : ∀ e ∈ ents.toList, e.key = .int .u64 (pkO e).seq ∧ e.val = .agg (pkO e).vals.toArray) (hround : Round41 Hb f pred) :
    ∀ (n : Nat) (lf : List MapEntry) (out : List Pkt) (E : Env) (a : Act) (w : World) (vs : Nat → Value), lf.length < n → out.length + lf.length ≤ most → Iter w r bm ents clock lf →
      Step Hb.length E0 Hb w0 E (Hb ++ [.row 36 4 out.length (pkG out)]) w → FRep E (Hb.length + 1) (fat [1, 5, 12] vs (xs41 f Hb.length out.length r) 27 0) a → ¬ Im E (Hb ++ [.row 36 4 out.length (pkG out)]) r →
      Code.rounds Try.prog loop41 (End41 E0 w0 Hb f r bm ents clock (out ++ (lf.map pkO).filter pred)) n a w := by
  intro n
  induction n with
  | zero => intro lf out E a w vs h; omega
  | succ n ih =>
    intro lf out E a w vs hlt hmost hit hst hf hri
    have hroH : noRo (Hb ++ [.row 36 4 out.length (pkG out)]) = true := noRo_app hro rfl
    rw [rounds_succ, loop41_eq]
    refine wp_seq (wp_region_list ?_)
    rw [r3_list]
    have ev12 : a.eval (.tmp 12) = .pointer (some ⟨r, 0, none⟩) := by rw [hf.eval]; rfl
    have hlen : (Hb ++ [AB.row 36 4 out.length (pkG out)]).length = Hb.length + 1 := by simp
    rcases iter_next (P := Try.prog) hit hn hrb nx.type with ⟨hlf, hrun⟩ | ⟨e, lf', w1, he, hperm, hrun, hit', hent, hout⟩
    · -- nothing is left
      subst hlf
      refine wpList_go nx_guard (v := .tuple #[.bool false]) (w' := w) (by simp only [execOp, nx_op, ev12, Sem.run_bind, hrun, Result.andThen_ok, Sem.run_pure]) ?_
      rw [nx_dst]
      have hf1 := hf.put (some 13) (.tup [.s (.c (.bool false))]) (by simp [AV.ref, EV.ref, SV.ref]) (by intro x hx; simp [AV.svs, EV.svs] at hx; subst hx; trivial)
      have hp : pureA Try.prog (put (fat [1, 5, 12] vs (xs41 f Hb.length out.length r) 27 0) (some 13) (.tup [.s (.c (.bool false))])) ex.op = .v (.c (.bool false)) := by rw [ex_op]; rfl
      obtain ⟨g1, _, _⟩ := pure_gives hf1 ex (.c (.bool false)) (by rw [hp]; rfl)
      refine wpList_go ex_guard (g1 w) ?_
      rw [ex_dst]
      have hf2 := hf1.put (some 14) (.c (.bool false)) (Nat.zero_le _) (ok_s.2 trivial)
      refine wp_seq (wp_cond_false ((hf2.eval (.tmp 14)).trans rfl) (wp_exit ?_))
      obtain ⟨vs', hf3⟩ := hf2.slim [1, 5, 12]
      exact ⟨out, E, vs', rfl, hst, hf3, hit.map, by simp⟩
    · -- one comes up
      obtain ⟨hk, hv⟩ := hkv e he
      have hst1 := step_out hst hout hr0 hri hroH
      refine wpList_go nx_guard (v := .tuple #[.bool true, e.key, e.val]) (w' := w1) (by simp only [execOp, nx_op, ev12, Sem.run_bind, hrun, Result.andThen_ok, Sem.run_pure]) ?_
      rw [nx_dst, hk, hv]
      have hf1 := hf.put (some 13) (.tup [.s (.c (.bool true)), .s (.d (.int .u64 (pkO e).seq)), .agg (pkO e).cells]) (Nat.zero_le _) (by
        intro x hx
        simp [AV.svs, EV.svs, Pkt.cells] at hx
        rcases hx with rfl | rfl | rfl | rfl | rfl | rfl <;> trivial)
      have hp : pureA Try.prog (put (fat [1, 5, 12] vs (xs41 f Hb.length out.length r) 27 0) (some 13) (.tup [.s (.c (.bool true)), .s (.d (.int .u64 (pkO e).seq)), .agg (pkO e).cells])) ex.op = .v (.c (.bool true)) := by rw [ex_op]; rfl
      obtain ⟨g1, _, _⟩ := pure_gives hf1 ex (.c (.bool true)) (by rw [hp]; rfl)
      refine wpList_go ex_guard (g1 w1) ?_
      rw [ex_dst]
      have hf2 := hf1.put (some 14) (.c (.bool true)) (Nat.zero_le _) (ok_s.2 trivial)
      refine wp_seq (wp_cond_true ((hf2.eval (.tmp 14)).trans rfl) (wp_skip ?_))
      refine wp_block (wp_seq (wp_region_list ?_))
      rw [r4_list]
      have ev12' := hf2.eval (.tmp 12)
      refine wpList_go en_guard (v := .tuple #[.int .u64 (pkO e).seq, .agg (pkO e).vals.toArray]) (w' := w1) (by
        rw [hk, hv] at hent
        have e12 : ((a.put (some 13) ((AV.tup [.s (.c (.bool true)), .s (.d (.int .u64 (pkO e).seq)), .agg (pkO e).cells]).conc E)).put (some 14) ((AV.c (.bool true)).conc E)).eval (.tmp 12) = .pointer (some ⟨r, 0, none⟩) := by rw [ev12']; rfl
        simp only [execOp, en_op]
        erw [e12]
        simp only [Sem.run_bind, hent, Result.andThen_ok, Sem.run_pure]) ?_
      rw [en_dst]
      have hf3 := hf2.put (some 15) (.tup [.s (.d (.int .u64 (pkO e).seq)), .agg (pkO e).cells]) (Nat.zero_le _) (by
        intro x hx
        simp [AV.svs, EV.svs, Pkt.cells] at hx
        rcases hx with rfl | rfl | rfl | rfl | rfl <;> trivial)
      have hll := hperm.length_eq
      simp only [List.length_cons] at hll
      have hsat := hround.go vs r (pkO e) out (by omega)
      rw [← hlen] at hf3
      unfold round41 at hsat
      have hreg := reg_sat fine (call_sat fine eSok.ent 1) rest4 hst1.rep hf3 hsat
      refine wpList_imp ?_ _ _ _ hreg
      rintro e1 a1 w2 ⟨σ1, E1, rfl, s1, f1, q1⟩
      refine wp_mono (code_sat fine (call_sat fine eSok.ent 1) tail41 E1 σ1 a1 w2 _ tail41_ok s1.rep f1 (Nat.le_trans (by simp) s1.len) q1) ?_
      rintro e2 a2 w3 ⟨σ2, E2, s2, f2, q2⟩
      unfold endK at q2
      split at q2
      · rename_i hb
        have hlen2 := Nat.eq_of_beq_eq_true hb
        obtain ⟨rfl, hre⟩ := q2
        obtain ⟨vs', f3⟩ := f2.slim [1, 5, 12]
        rw [hlen2] at f3
        have s12 := (s1.mono (by simp : Hb.length ≤ (Hb ++ [AB.row 36 4 out.length (pkG out)]).length)).trans s2 (Nat.le_refl _)
        obtain ⟨xs3, H3, E3, s3, k1, k2, rfl, rfl⟩ := hre E2 w3 s2.rep (slim_mem (fun x hx => ⟨f2.sc x hx, f2.ok x hx⟩) ⟨Nat.zero_le _, undef_ok⟩) s12.len
        have s123 := s12.trans s3 (Nat.le_refl _)
        have hrlt : r < w1.heap.size := by
          obtain ⟨_, _, _, h, _⟩ := hit'.it
          exact (Array.getElem?_eq_some_iff.1 h).1
        have hbmi : ¬ Im E (Hb ++ [.row 36 4 out.length (pkG out)]) bm := fun hi => hbi (hst1.im bm hbm hi)
        have hw : ∀ b, b < w1.heap.size → ¬ Im E (Hb ++ [.row 36 4 out.length (pkG out)]) b → w3.heap[b]? = w1.heap[b]? := s123.frame
        have hit3 : Iter w3 r bm ents clock lf' := by
          refine ⟨?_, ?_⟩
          · rw [hw bm (Nat.lt_of_lt_of_le hbm hst1.size) hbmi]; exact hit'.map
          · obtain ⟨since, seen, c0, h1, h2⟩ := hit'.it
            exact ⟨since, seen, c0, by rw [hw r hrlt hri]; exact h1, h2⟩
        have f4 := f3.fat (E2 := E3) (n2 := Hb.length + 1) k1 (fun x hx => by have := k2 x hx; simpa using this)
        have := ih lf' (add41 pred out (pkO e)) E3 a2 w3 vs' (by omega) (by have := add41_len pred out (pkO e); omega) hit3 (hst1.trans s123 (Nat.le_refl _)) f4 (fun hi => hri (s123.im r hrlt hi))
        refine rounds_mono n ?_ this
        rintro e3 a3 w4 ⟨out', E4, vs4, h1, h2, h3, h4, h5⟩
        refine ⟨out', E4, vs4, h1, h2, h3, h4, h5.trans ?_⟩
        have hp1 := (hperm.map pkO).filter pred
        simp only [List.map_cons] at hp1
        unfold add41
        split
        · rename_i hpr
          rw [List.filter_cons, if_pos hpr] at hp1
          simpa using List.Perm.append_left out hp1.symm
        · rename_i hpr
          rw [List.filter_cons, if_neg hpr] at hp1
          exact List.Perm.append_left out hp1.symm
      · exact q2.elim

end Go.Proofs.Ythckkoledhjmeaa.Ev
