/-
  The two closures that ledger.some is called with.
-/
import Derived.Test.YthckkoledhjmeaaVD
namespace Go.Proofs.Ythckkoledhjmeaa.Ev
open Go

theorem pkG_get (es : List Pkt) (j : Nat) : pkG es j = (es.getD j Pkt.zero).vals := rfl

theorem app_pk (out : List Pkt) (p : Pkt) (g2 : Nat → List Value) (h2 : g2 0 = p.vals) : ∀ j, j < out.length + 1 → appendG (pkG out) 0 out.length g2 0 j = pkG (out ++ [p]) j := by
  intro j hj
  simp only [appendG, pkG_get]
  split
  · rename_i h
    rw [Nat.zero_add, List.getD_eq_getElem?_getD, List.getD_eq_getElem?_getD, List.getElem?_append_left h]
  · have : j = out.length := by omega
    subst this
    rw [Nat.sub_self, Nat.add_zero, h2]
    simp

set_option maxRecDepth 100000 in
theorem round41_open (L : LSt) : Round41 [.cells 86 (lc L 1), .dead] (.fn 44 []) (fun _ => true) := by
  refine ⟨fun vs r p out hmost => ?_⟩
  have e := tO_eq vs (.d (.pointer (some ⟨r, 0, none⟩))) L p out.length (pkG out)
  unfold tO at e
  have hadd : add41 (fun _ => true) out p = out ++ [p] := rfl
  rw [hadd]
  change (round41 2 ⟨fr41 vs (.fn 44 []) (.e (.s (.sl 2 4 0 out.length 0))) (.d (.pointer (some ⟨r, 0, none⟩))) p.seq p, [.cells 86 (lc L 1), .dead, .row 36 4 out.length (pkG out)]⟩).sat _ _
  rw [e]
  refine ⟨⟨by omega, by simp [chunks_len], hmost⟩, rfl, ?_⟩
  refine Re.row 5 (pkG (out ++ [p])) rfl (app_pk out p _ rfl) (Re.ren [some 0, some 1, some 5] rfl rfl rfl (.refl ⟨?_, ?_⟩))
  · simp [xs41]
  · simp [lc]

/-- Is a packet's time over? -/
def overB (att tmo : Int) (p : Pkt) : Bool := decide (IntKind.i64.wrap (att - p.sent) ≥ tmo) && (decide (att ≥ 0) || decide (IntKind.i64.wrap (att - p.sent) < 0))

set_option maxRecDepth 100000 in
theorem round41_expire (L : LSt) (att tmo : Int) : Round41 [.cells 86 (lc L 1), .dead, .cells 3 [.d (.int .i64 att)], .cells 3 [.d (.int .i64 tmo)]] (.fn 42 [(2, 0), (3, 0)]) (overB att tmo) := by
  refine ⟨fun vs r p out hmost => ?_⟩
  have e := tE_eq vs (.d (.pointer (some ⟨r, 0, none⟩))) L att tmo p out.length (pkG out)
  unfold tE at e
  change (round41 4 ⟨fr41 vs (.fn 42 [(2, 0), (3, 0)]) (.e (.s (.sl 4 4 0 out.length 0))) (.d (.pointer (some ⟨r, 0, none⟩))) p.seq p, [.cells 86 (lc L 1), .dead, .cells 3 [.d (.int .i64 att)], .cells 3 [.d (.int .i64 tmo)], .row 36 4 out.length (pkG out)]⟩).sat _ _
  rw [e]
  have yes : overB att tmo p = true → add41 (overB att tmo) out p = out ++ [p] := fun h => by simp [add41, h]
  have no : overB att tmo p = false → add41 (overB att tmo) out p = out := fun h => by simp [add41, h]
  refine ⟨fun h1 => ⟨fun h2 => ?_, fun h2 => ⟨fun h3 => ?_, fun h3 => ?_⟩⟩, fun h1 => ?_⟩
  · rw [yes (by simp only [overB, h1, h2]; rfl)]
    refine ⟨⟨by omega, by simp [chunks_len], hmost⟩, rfl, ?_⟩
    refine Re.row 7 (pkG (out ++ [p])) rfl (app_pk out p _ rfl) (Re.ren [some 0, some 1, some 2, some 3, some 7] rfl rfl rfl (.refl ⟨?_, ?_⟩))
    · simp [xs41]
    · simp [lc]
  · rw [yes (by simp only [overB, h1, h2, h3]; rfl)]
    refine ⟨⟨by omega, by simp [chunks_len], hmost⟩, rfl, ?_⟩
    refine Re.row 7 (pkG (out ++ [p])) rfl (app_pk out p _ rfl) (Re.ren [some 0, some 1, some 2, some 3, some 7] rfl rfl rfl (.refl ⟨?_, ?_⟩))
    · simp [xs41]
    · simp [lc]
  · rw [no (by simp only [overB, h1, h2, h3]; rfl)]
    refine ⟨rfl, Re.ren [some 0, some 1, some 2, some 3, some 4] rfl rfl rfl (.refl ⟨?_, ?_⟩)⟩
    · simp [xs41]
    · simp [lc]
  · rw [no (by simp only [overB, h1]; rfl)]
    refine ⟨rfl, Re.ren [some 0, some 1, some 2, some 3, some 4] rfl rfl rfl (.refl ⟨?_, ?_⟩)⟩
    · simp [xs41]
    · simp [lc]

end Go.Proofs.Ythckkoledhjmeaa.Ev
