/-
  Summaries of what is done with books, the program's and the document's.
-/
import Derived.Test.YthckkoledhjmeaaBZ
namespace Go.Proofs.Ythckkoledhjmeaa.Ev
open Go


def dec0 (args : List AV) : Option Unit := match args with | [] => some () | _ => none
def dec1 (args : List AV) : Option Int := match args with | [a] => (match numA a with | some (.i64, x) => some x | _ => none) | _ => none
def dec2 (args : List AV) : Option (Int × Int) := match args with | [a, b] => (match numA a, numA b with | some (.i64, x), some (.i64, y) => some (x, y) | _, _ => none) | _ => none
def decU (args : List AV) : Option (Int × Int) := match args with | [a, b] => (match numA a, numA b with | some (.u64, x), some (.i64, y) => some (x, y) | _, _ => none) | _ => none

theorem dec0_ok {args : List AV} {x : Unit} (h : dec0 args = some x) : (∀ ms, renFr ms args = some args) ∧ args.map AV.toD = [] := by
  unfold dec0 at h
  split at h
  · exact ⟨fun _ => rfl, rfl⟩
  · cases h

theorem dec1_ok {args : List AV} {x : Int} (h : dec1 args = some x) : (∀ ms, renFr ms args = some args) ∧ args.map AV.toD = [.d (.int .i64 x)] := by
  unfold dec1 at h
  split at h
  · rename_i a
    split at h
    · rename_i y ha
      cases h
      obtain ⟨a1, a2⟩ := numA_facts ha
      exact ⟨fun ms => by simp only [renFr, a1], by simp only [List.map_cons, List.map_nil, a2]⟩
    · cases h
  · cases h

theorem dec2_ok {args : List AV} {x : Int × Int} (h : dec2 args = some x) : (∀ ms, renFr ms args = some args) ∧ args.map AV.toD = [.d (.int .i64 x.1), .d (.int .i64 x.2)] := by
  unfold dec2 at h
  split at h
  · rename_i a b
    split at h
    · rename_i y z ha hb
      cases h
      obtain ⟨a1, a2⟩ := numA_facts ha
      obtain ⟨b1, b2⟩ := numA_facts hb
      exact ⟨fun ms => by simp only [renFr, a1, b1], by simp only [List.map_cons, List.map_nil, a2, b2]⟩
    · cases h
  · cases h

theorem decU_ok {args : List AV} {x : Int × Int} (h : decU args = some x) : (∀ ms, renFr ms args = some args) ∧ args.map AV.toD = [.d (.int .u64 x.1), .d (.int .i64 x.2)] := by
  unfold decU at h
  split at h
  · rename_i a b
    split at h
    · rename_i y z ha hb
      cases h
      obtain ⟨a1, a2⟩ := numA_facts ha
      obtain ⟨b1, b2⟩ := numA_facts hb
      exact ⟨fun ms => by simp only [renFr, a1, b1], by simp only [List.map_cons, List.map_nil, a2, b2]⟩
    · cases h
  · cases h

def sBk {α : Type} (dec : List AV → Option α) (C : BSt → Prop) (R : BSt → α → AV) (U : BSt → α → BSt) (ex : BSt → α → Heap) (args : List AV) (H : Heap) : T (AV × Heap) :=
  match args with
  | .e (.s (.ptr l 0)) :: rest => match bkAt H l, dec rest with
    | some (B, p, lm, lr, q), some x => .need (q ∧ B.Ok ∧ C B) (.ret ((R B x).by (back [l, p, lm, lr] H.length), putBk H l p lm lr (U B x) ++ (ex B x).map (AB.by (back [l, p, lm, lr] H.length))))
    | _, _ => .fail
  | _ => .fail

theorem sBk_ok {α : Type} {f : Nat} {dec : List AV → Option α} {enc : α → List AV} {C : BSt → Prop} {R : BSt → α → AV} {U : BSt → α → BSt} {ex : BSt → α → Heap} (hd : ∀ {args : List AV} {x : α}, dec args = some x → (∀ ms, renFr ms args = some args) ∧ args.map AV.toD = enc x)
    (hex : ∀ B x, noRo (ex B x) = true) (h : ∀ B, B.Ok → C B → ∀ x, CallsA Try.prog f (.e (.s (.ptr 0 0)) :: enc x) (bhp B) fun r H' => r = R B x ∧ H' = bhp4 (U B x) ++ ex B x) : (Ent.summ (sBk dec C R U ex)).ok Try.prog f := by
  intro args H Q hq
  unfold sBk at hq
  split at hq
  · rename_i l rest
    split at hq
    · rename_i B p lm lr q x hl hx
      obtain ⟨⟨h1, h2, h3⟩, hq⟩ := hq
      obtain ⟨d1, d2⟩ := hd hx
      refine (bk_lift hl h1 d1 d2 (hex B x) (h B h2 h3 x)).mono ?_
      rintro r H' ⟨rfl, rfl⟩
      exact hq
    · exact hq.elim
  · exact hq.elim

def sRb {α : Type} (dec : List AV → Option α) (C : BSt → Prop) (R : BSt → α → AV) (U : BSt → α → BSt) (ex : BSt → α → Heap) (args : List AV) (H : Heap) : T (AV × Heap) :=
  match args with
  | .e (.s (.ptr l 0)) :: rest => match rbAt H l, dec rest with
    | some (B, p, lm, lr, q), some x => .need (q ∧ B.Ok ∧ C B) (.ret ((R B x).by (back [l, p, lm, lr] H.length), putRb H l p lm lr (U B x) ++ (ex B x).map (AB.by (back [l, p, lm, lr] H.length))))
    | _, _ => .fail
  | _ => .fail

theorem sRb_ok {α : Type} {f : Nat} {dec : List AV → Option α} {enc : α → List AV} {C : BSt → Prop} {R : BSt → α → AV} {U : BSt → α → BSt} {ex : BSt → α → Heap} (hd : ∀ {args : List AV} {x : α}, dec args = some x → (∀ ms, renFr ms args = some args) ∧ args.map AV.toD = enc x)
    (hex : ∀ B x, noRo (ex B x) = true) (h : ∀ B, B.Ok → C B → ∀ x, CallsA Try.prog f (.e (.s (.ptr 0 0)) :: enc x) (rhb B) fun r H' => r = R B x ∧ H' = rhb4 (U B x) ++ ex B x) : (Ent.summ (sRb dec C R U ex)).ok Try.prog f := by
  intro args H Q hq
  unfold sRb at hq
  split at hq
  · rename_i l rest
    split at hq
    · rename_i B p lm lr q x hl hx
      obtain ⟨⟨h1, h2, h3⟩, hq⟩ := hq
      obtain ⟨d1, d2⟩ := hd hx
      refine (rb_lift hl h1 d1 d2 (hex B x) (h B h2 h3 x)).mono ?_
      rintro r H' ⟨rfl, rfl⟩
      exact hq
    · exact hq.elim
  · exact hq.elim

def fewIds (B : BSt) : Prop := B.id < 4611686018427387904
def anyB (_ : BSt) : Prop := True
def exH (B : BSt) (x : Int) : Heap := [.row 36 4 (exP B x).length (pkG (exP B x))]

def s32 : List AV → Heap → T (AV × Heap) := sBk dec1 fewIds begR begB fun _ _ => []
def s33 : List AV → Heap → T (AV × Heap) := sBk dec2 anyB (fun B x => sbR B x.1 x.2) (fun B x => sbB B x.1 x.2) fun _ _ => []
def s34 : List AV → Heap → T (AV × Heap) := sBk decU anyB (fun B x => enR B x.1 x.2) (fun B x => akB B x.1 x.2) fun _ _ => []
def s35 : List AV → Heap → T (AV × Heap) := sBk decU anyB (fun B x => enR B x.1 x.2) (fun B x => loB B x.1 x.2) fun _ _ => []
def s36 : List AV → Heap → T (AV × Heap) := sBk dec1 anyB (exR 5) exB exH
def s37 (args : List AV) (H : Heap) : T (AV × Heap) :=
  match args with
  | [.e (.s (.ptr l 0))] => match bkAt H l with
    | some (B, p, lm, lr, q) => .need (q ∧ B.Ok) (.ite (decide (tkP B)) (.ret (.tup [.agg (B.ms.getD 0 Mi.zero).cells, .s (.c (.bool true))], putBk H l p lm lr ⟨B.L, B.now, B.ms.tail, B.id, B.tmo⟩)) (.ret (.tup [.agg Mi.zero.cells, .s (.c (.bool false))], putBk H l p lm lr B)))
    | _ => .fail
  | _ => .fail
def s28 : List AV → Heap → T (AV × Heap) := sBk dec0 anyB (fun B _ => .e (.s (.sl 5 15 0 B.ms.length 0))) (fun B _ => B) fun B _ => [.row 80 15 B.ms.length (miG B.ms)]
def s50 : List AV → Heap → T (AV × Heap) := sRb dec1 fewIds begR begB fun _ _ => []
def s51 : List AV → Heap → T (AV × Heap) := sRb dec2 anyB (fun B x => sbR B x.1 x.2) (fun B x => sbB B x.1 x.2) fun _ _ => []
def s52 : List AV → Heap → T (AV × Heap) := sRb decU anyB (fun B x => enR B x.1 x.2) (fun B x => akB B x.1 x.2) fun _ _ => []
def s53 : List AV → Heap → T (AV × Heap) := sRb decU anyB (fun B x => enR B x.1 x.2) (fun B x => loB B x.1 x.2) fun _ _ => []
def s54 : List AV → Heap → T (AV × Heap) := sRb dec1 anyB (exR 6) exB exH
def s55 (args : List AV) (H : Heap) : T (AV × Heap) :=
  match args with
  | [.e (.s (.ptr l 0))] => match rbAt H l with
    | some (B, p, lm, lr, q) => .need (q ∧ B.Ok) (.ite (decide (tkP B)) (.ret (.tup [.agg (B.ms.getD 0 Mi.zero).cells, .s (.c (.bool true))], putRb H l p lm lr ⟨B.L, B.now, B.ms.tail, B.id, B.tmo⟩)) (.ret (.tup [.agg Mi.zero.cells, .s (.c (.bool false))], putRb H l p lm lr B)))
    | _ => .fail
  | _ => .fail

theorem no_ex {f : Nat} {args : List AV} {H K : Heap} {R : AV} (h : CallsA Try.prog f args H fun r H' => r = R ∧ H' = K) : CallsA Try.prog f args H fun r H' => r = R ∧ H' = K ++ [] :=
  h.mono fun _ _ h => by rw [List.append_nil]; exact h

theorem s32ok : (Ent.summ s32).ok Try.prog 32 := sBk_ok (enc := fun x => [.d (.int .i64 x)]) dec1_ok (fun _ _ => rfl) fun B h c x => no_ex (begin32 B h c x)
theorem s33ok : (Ent.summ s33).ok Try.prog 33 := sBk_ok (enc := fun x => [.d (.int .i64 x.1), .d (.int .i64 x.2)]) dec2_ok (fun _ _ => rfl) fun B h _ x => no_ex (send33 B h x.1 x.2)
theorem s34ok : (Ent.summ s34).ok Try.prog 34 := sBk_ok (enc := fun x => [.d (.int .u64 x.1), .d (.int .i64 x.2)]) decU_ok (fun _ _ => rfl) fun B h _ x => no_ex (ack34 B h x.1 x.2)
theorem s35ok : (Ent.summ s35).ok Try.prog 35 := sBk_ok (enc := fun x => [.d (.int .u64 x.1), .d (.int .i64 x.2)]) decU_ok (fun _ _ => rfl) fun B h _ x => no_ex (lose35 B h x.1 x.2)
theorem s36ok : (Ent.summ s36).ok Try.prog 36 := sBk_ok (enc := fun x => [.d (.int .i64 x)]) dec1_ok (fun _ _ => rfl) fun B h _ x => expire36 B h x
theorem tk_out {f : Nat} {args : List AV} {H : Heap} {B : BSt} {K : BSt → Heap} {Q : AV × Heap → Prop} (h : CallsA Try.prog f args H fun r H' => r = tkR B ∧ H' = K (tkB B))
    (hq : (T.ite (decide (tkP B)) (.ret (.tup [.agg (B.ms.getD 0 Mi.zero).cells, .s (.c (.bool true))], K ⟨B.L, B.now, B.ms.tail, B.id, B.tmo⟩)) (.ret (.tup [.agg Mi.zero.cells, .s (.c (.bool false))], K B))).sat Try.prog Q) : CallsA Try.prog f args H fun r H' => Q (r, H') := by
  refine h.out ?_
  rintro r H' ⟨rfl, rfl⟩
  by_cases hk : tkP B
  · have e1 : tkM B = B.ms.getD 0 Mi.zero := by rw [tkM, if_pos hk]
    have e2 : tkB B = ⟨B.L, B.now, B.ms.tail, B.id, B.tmo⟩ := by rw [tkB, if_pos hk]
    refine ⟨.tup [.agg (B.ms.getD 0 Mi.zero).cells, .s (.c (.bool true))], fun E => by simp only [tkR, e1, hk, decide_true]; rfl, by simp only [tkR, e1]; exact Nat.le_refl _, fun E _ => acc_ok _ trivial, ?_⟩
    rw [e2]
    exact hq.1 (decide_eq_true hk)
  · have e1 : tkM B = Mi.zero := by rw [tkM, if_neg hk]
    have e2 : tkB B = B := by rw [tkB, if_neg hk]
    refine ⟨.tup [.agg Mi.zero.cells, .s (.c (.bool false))], fun E => by simp only [tkR, e1, hk, decide_false]; rfl, by simp only [tkR, e1]; exact Nat.le_refl _, fun E _ => acc_ok _ trivial, ?_⟩
    rw [e2]
    exact hq.2 (decide_eq_false hk)

theorem tkR_by (B : BSt) (f : Nat → Nat) : (tkR B).by f = tkR B := rfl

theorem s37ok : (Ent.summ s37).ok Try.prog 37 := by
  intro args H Q hq
  unfold s37 at hq
  split at hq
  · rename_i l
    split at hq
    · rename_i B p lm lr q hl
      obtain ⟨⟨h1, h2⟩, hq⟩ := hq
      refine tk_out (K := putBk H l p lm lr) ((bk_lift (ex := []) (r := tkR B) (B' := tkB B) (rest := []) (rest0 := []) hl h1 (fun _ => rfl) rfl rfl (no_ex (take37 B h2))).mono ?_) hq
      rintro r H' ⟨rfl, rfl⟩
      exact ⟨tkR_by _ _, by rw [List.map_nil, List.append_nil]⟩
    · exact hq.elim
  · exact hq.elim
theorem s28ok : (Ent.summ s28).ok Try.prog 28 := sBk_ok (enc := fun _ => []) dec0_ok (fun _ _ => rfl) fun B h _ _ => CallsA.re ((mis28 B h).mono (by
  rintro r H' ⟨rfl, rfl⟩
  exact Re.ren [some 0, some 1, some 2, none, some 3, some 4] rfl rfl rfl (.refl ⟨_, rfl, rfl, rfl⟩)))
theorem s50ok : (Ent.summ s50).ok Try.prog 50 := sRb_ok (enc := fun x => [.d (.int .i64 x)]) dec1_ok (fun _ _ => rfl) fun B h c x => no_ex (begin50 B h c x)
theorem s51ok : (Ent.summ s51).ok Try.prog 51 := sRb_ok (enc := fun x => [.d (.int .i64 x.1), .d (.int .i64 x.2)]) dec2_ok (fun _ _ => rfl) fun B h _ x => no_ex (send51 B h x.1 x.2)
theorem s52ok : (Ent.summ s52).ok Try.prog 52 := sRb_ok (enc := fun x => [.d (.int .u64 x.1), .d (.int .i64 x.2)]) decU_ok (fun _ _ => rfl) fun B h _ x => no_ex (ack52 B h x.1 x.2)
theorem s53ok : (Ent.summ s53).ok Try.prog 53 := sRb_ok (enc := fun x => [.d (.int .u64 x.1), .d (.int .i64 x.2)]) decU_ok (fun _ _ => rfl) fun B h _ x => no_ex (lose53 B h x.1 x.2)
theorem s54ok : (Ent.summ s54).ok Try.prog 54 := sRb_ok (enc := fun x => [.d (.int .i64 x)]) dec1_ok (fun _ _ => rfl) fun B h _ x => expire54 B h x
theorem s55ok : (Ent.summ s55).ok Try.prog 55 := by
  intro args H Q hq
  unfold s55 at hq
  split at hq
  · rename_i l
    split at hq
    · rename_i B p lm lr q hl
      obtain ⟨⟨h1, h2⟩, hq⟩ := hq
      refine tk_out (K := putRb H l p lm lr) ((rb_lift (ex := []) (r := tkR B) (B' := tkB B) (rest := []) (rest0 := []) hl h1 (fun _ => rfl) rfl rfl (no_ex (take55 B h2))).mono ?_) hq
      rintro r H' ⟨rfl, rfl⟩
      exact ⟨tkR_by _ _, by rw [List.map_nil, List.append_nil]⟩
    · exact hq.elim
  · exact hq.elim

end Go.Proofs.Ythckkoledhjmeaa.Ev
