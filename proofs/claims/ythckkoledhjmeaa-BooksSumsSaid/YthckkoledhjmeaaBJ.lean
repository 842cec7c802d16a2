/-
  slices.Clone at accounts: what the call does.
-/
import Derived.Test.YthckkoledhjmeaaBI
namespace Go.Proofs.Ythckkoledhjmeaa.Ev
open Go

theorem run_eqSlice {P : Program} (d : Nat) {t e : TypeId} (hu : P.underlying t = some (.slice e)) (x : Option Addr) (n c : Nat) (w : World) (h : x = none → n = 0 ∧ c = 0) : (Op.equalIn (d + 1) t (.slice x n c) (.slice none 0 0)).run P w = .ok x.isNone w := by
  cases x with
  | none => obtain ⟨rfl, rfl⟩ := h rfl; simp [Op.equalIn, run_underlying hu]
  | some a => simp [Op.equalIn, run_underlying hu]

theorem run_eq49 {P : Program} {t e : TypeId} (hu : P.underlying t = some (.slice e)) (x : Option Addr) (n c : Nat) (h : x = none → n = 0 ∧ c = 0) (ox oy : Operand) : RunBin P .eql t ox oy (.slice x n c) (.slice none 0 0) (.bool x.isNone) :=
  runBin_of (P := P) (neg := false) (fun w => run_eqSlice 9999 hu x n c w h) ox oy (fun op w => by cases op <;> simp [eqGuard]) (by simp [binOp]) (by simp [binOp])

theorem body_f49 : Try.f49.body = some (bodyOf Try.prog 49) := by kernel_rfl

theorem eZok : EntsOk Try.prog eZ := trivial

theorem nil_conc {E : Env} {l k i n z : Nat} (h : E.nil l = true) : (SV.sl l k i n z).conc E = .slice none 0 0 := by simp only [SV.conc, h]

set_option maxRecDepth 100000 in
theorem clone49 (i n z N : Nat) (g : Nat → List Value) (hi : i + n ≤ N) (hm : n ≤ most) :
    CallsA Try.prog 49 [.e (.s (.sl 0 15 i n z))] [.row 80 15 N g] fun r H' => r = .e (.s (.sl 1 15 0 n 0)) ∧ H' = [.row 80 15 N g, .row 80 15 n (fun j => g (i + j))] := by
  refine CallsA.re ?_
  intro E w h ha
  have ha0 := ha (.e (.s (.sl 0 15 i n z))) (by simp)
  have hok := ok_s.1 ha0.2
  have hpre : (pre49 ⟨fr49 i n z, [.row 80 15 N g]⟩).sat Try.prog (fun x => x = ([.e (.s (.sl 0 15 i n z)), undefA, .c (.slice none 0 0), .e (.s (.sl 0 15 i n z)), undefA, undefA, undefA, undefA], [.row 80 15 N g])) := by
    show (t49p i n z N g).sat _ _
    rw [t49p_eq]
    exact rfl
  unfold pre49 at hpre
  have hfr : FRep E 1 (fr49 i n z) { tmps := ([AV.e (.s (.sl 0 15 i n z))].map (AV.conc E)).toArray ++ Array.replicate (8 - 1) undef, defers := [] } := by
    refine ⟨?_, ?_, ?_, rfl⟩
    · simp [fr49, AV.conc, undef]
    · intro x hx
      simp only [fr49, List.mem_append, List.mem_cons, List.not_mem_nil, or_false] at hx
      rcases hx with rfl | hx
      · exact ha0.1
      · rw [List.eq_of_mem_replicate hx]; exact Nat.zero_le _
    · intro x hx
      simp only [fr49, List.mem_append, List.mem_cons, List.not_mem_nil, or_false] at hx
      rcases hx with rfl | hx
      · exact ha0.2
      · rw [List.eq_of_mem_replicate hx]; exact undef_ok
  refine calls_of_wp Try.func49 body_f49 ?_
  rw [body49]
  refine wp_seq (wp_mono (code_sat fine (call_sat fine eZok.ent 0) (r49 [true]) E ⟨fr49 i n z, [.row 80 15 N g]⟩ _ w _ kc49a h hfr (Nat.le_refl _) hpre) ?_)
  rintro e a1 w1 ⟨σ1, E1, s1, f1, q1⟩
  cases e with
  | normal =>
    refine wp_seq (wp_seq (wp_region_list ?_))
    rw [opsB49_list]
    refine wpList_app [mv49] _ _ (wpList_imp ?_ _ _ _ (reg_sat fine (call_sat fine eZok.ent 0) [mv49] s1.rep f1 q1))
    rintro e a3 w3 ⟨σ3, E3, rfl, s3, f3, q3⟩
    have q3' := (Prod.mk.injEq _ _ _ _).mp q3
    obtain ⟨hx, hH⟩ := q3'
    have s13 : Step 1 E [.row 80 15 N g] w E3 σ3.H w3 := s1.trans s3 s1.len
    rw [hH] at s13 f3
    rw [hx] at f3
    have hnil : E3.nil 0 = E.nil 0 := s13.agree.nil 0 (by decide)
    have hok3 : (SV.sl 0 15 i n z).ok E3 := ok_s.1 (f3.ok (.e (.s (.sl 0 15 i n z))) (by simp))
    have ev3 : a3.eval (.tmp 3) = (SV.sl 0 15 i n z).conc E3 := by rw [f3.eval]; rfl
    obtain ⟨x, m, c, hxc, hxn, hxi⟩ : ∃ x m c, (SV.sl 0 15 i n z).conc E3 = .slice x m c ∧ (x = none → m = 0 ∧ c = 0) ∧ x.isNone = E3.nil 0 := by
      cases hb : E3.nil 0 with
      | true => exact ⟨none, 0, 0, nil_conc hb, fun _ => ⟨rfl, rfl⟩, rfl⟩
      | false => exact ⟨some _, _, _, by simp only [SV.conc, hb]; rfl, (fun h => by cases h), rfl⟩
    have hrun := run_eq49 (P := Try.prog) und58 x m c hxn (.tmp 3) (.const (.slice none 0 0))
    refine wpList_go eq49_guard (v := .bool (E3.nil 0)) (w' := w3) (by
      have := hrun w3
      rw [hxi] at this
      have evc : a3.eval (.const (.slice none 0 0)) = .slice none 0 0 := rfl
      simp only [execOp, eq49_op, ev3, hxc, evc]
      simp only [Sem.run_bind] at this ⊢
      rw [this]
      rfl) ?_
    rw [eq49_dst]
    have f4 := f3.put (some 4) (.c (.bool (E3.nil 0))) (Nat.zero_le _) (ok_s.2 trivial)
    have e4 := f4.eval (.tmp 4)
    have hst : ∀ (c : Code) (b : Bool), b = E3.nil 0 → (end49 c ⟨frE i n z b, [.row 80 15 N g]⟩).sat Try.prog (fun x => Re 1 [x.1] x.2 fun fr H2 => ∃ r2, fr = [r2] ∧ r2 = .e (.s (.sl 1 15 0 n 0)) ∧ H2 = [.row 80 15 N g, .row 80 15 n (fun j => g (i + j))]) → codeB oN c = true →
        c.wp Try.prog (fun e az wz => e = .ret ∧ (bodyPost Try.prog Try.f49 fun e w' => ∃ r H' E', e = .returned (r.conc E') ∧ Step 1 E [.row 80 15 N g] w E' H' w' ∧ r.ref ≤ H'.length ∧ r.ok E' ∧ Re 1 [r] H' fun fr H2 => ∃ r2, fr = [r2] ∧ r2 = .e (.s (.sl 1 15 0 n 0)) ∧ H2 = [.row 80 15 N g, .row 80 15 n (fun j => g (i + j))]) e az wz)
          (a3.put (some 4) ((AV.c (.bool (E3.nil 0))).conc E3)) w3 := by
      intro c b hb hs hc
      unfold end49 at hs
      subst hb
      refine wp_mono (code_sat fine (call_sat fine eZok.ent 0) c E3 ⟨frE i n z (E3.nil 0), [.row 80 15 N g]⟩ _ w3 _ hc s13.rep f4 (Nat.le_refl _) hs) ?_
      rintro e a6 w6 ⟨σ6, E6, s6, f9, q6⟩
      cases e with
      | ret =>
        obtain ⟨r, H', v1, v2, v3, v4, v5⟩ := ret_sat Try.f49 (s13.trans s6 (Nat.le_refl _)) f9 q6
        exact ⟨rfl, f9.defers, _, v1, r, H', E6, rfl, v2, v3, v4, v5⟩
      | normal => exact q6.elim
      | exit id => exact q6.elim
      | goto l => exact q6.elim
      | panic ch => exact q6.elim
      | outgrown => exact q6.elim
    cases hb : E3.nil 0 with
    | true =>
      have hn0 : n = 0 := hok3.1 hb
      rw [hb] at e4 hst
      refine wp_cond_true e4 (wp_mono (hst c49 true rfl ?_ kc49c) ?_)
      · show (t49c i n z N g).sat _ _
        rw [t49c_eq]
        subst hn0
        exact Re.nil 0 80 15 (fun j => g (i + j)) (by decide) rfl (.refl ⟨_, rfl, rfl, rfl⟩)
      · rintro e a w ⟨rfl, hq⟩
        exact hq
    | false =>
      rw [hb] at e4 hst
      refine wp_cond_false e4 (wp_skip (wp_mono (hst (r49 [false, false]) false rfl ?_ kc49d) fun e a w hq => hq.2))
      show (t49d i n z N g).sat _ _
      rw [t49d_eq]
      refine ⟨⟨Nat.zero_le _, hi, by omega⟩, ?_⟩
      rw [Nat.zero_add]
      refine Re.row 2 (fun j => g (i + j)) rfl (fun j _ => ?_) (Re.ren [some 0, some 2] rfl rfl rfl (.refl ⟨_, rfl, rfl, rfl⟩))
      simp [appendG]
  | exit id => exact q1.elim
  | goto l => exact q1.elim
  | ret => exact q1.elim
  | panic ch => exact q1.elim
  | outgrown => exact q1.elim

end Go.Proofs.Ythckkoledhjmeaa.Ev
