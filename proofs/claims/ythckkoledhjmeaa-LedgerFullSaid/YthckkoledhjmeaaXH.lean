/-
  The program's ledger: what is open, and what expires; summaries of them.
-/
import Derived.Test.YthckkoledhjmeaaVH
import Derived.Test.YthckkoledhjmeaaXG
namespace Go.Proofs.Ythckkoledhjmeaa.Ev
open Go

theorem seq_uniq {es : List Pkt} (hs : es.Pairwise fun a b => a.seq < b.seq) {a b : Pkt} (ha : a ∈ es) (hb : b ∈ es) (h : a.seq = b.seq) : a = b := by
  obtain ⟨i, hi, rfl⟩ := List.mem_iff_getElem.1 ha
  obtain ⟨j, hj, rfl⟩ := List.mem_iff_getElem.1 hb
  rcases Nat.lt_trichotomy i j with hij | rfl | hij
  · have := List.pairwise_iff_getElem.1 hs i j hi hj hij; omega
  · rfl
  · have := List.pairwise_iff_getElem.1 hs j i hj hi hij; omega

theorem perm_sorted {d es : List Pkt} (hp : d.Perm es) (hd : d.Pairwise fun a b => a.seq ≤ b.seq) (hs : es.Pairwise fun a b => a.seq < b.seq) : d = es := by
  refine List.Perm.eq_of_pairwise (le := fun a b => a.seq ≤ b.seq) (fun a b ha hb h1 h2 => ?_) hd (hs.imp fun h => Int.le_of_lt h) hp
  exact seq_uniq hs (hp.subset ha) hb (Int.le_antisymm h1 h2)

theorem overB_X {att tmo : Int} {p : Pkt} (h1 : I64 att) (h2 : I64 tmo) (h3 : 0 ≤ p.sent) (h4 : p.sent ≤ 1099511627776) : overB att tmo p = overX att tmo p := by
  unfold I64 at h1 h2
  unfold overB overX
  rw [IntKind.wrap_i64]
  rw [Bool.eq_iff_iff]
  simp only [Bool.and_eq_true, Bool.or_eq_true, decide_eq_true_eq]
  omega

theorem filter_over (L : LSt) (h : L.Ok) {att tmo : Int} (h1 : I64 att) (h2 : I64 tmo) : L.es.filter (overB att tmo) = expP L att tmo := by
  have := h.last
  exact List.filter_congr fun p hp => by
    have hs := h.sent p hp
    exact overB_X h1 h2 hs.1 (by omega)

def delAll (es l : List Pkt) : List Pkt := l.foldl (fun es p => delP es p.seq) es

theorem delAll_filter : ∀ (l es : List Pkt), es.Pairwise (fun a b => a.seq < b.seq) → delAll es l = es.filter fun p => !(l.any fun q => q.seq == p.seq)
  | [], es, _ => by simp only [delAll, List.foldl_nil, List.any_nil, Bool.not_false]; exact (List.filter_eq_self.2 fun _ _ => rfl).symm
  | q :: l, es, h => by
    have h2 : (delP es q.seq).Pairwise fun a b => a.seq < b.seq := h.sublist List.eraseP_sublist
    have := delAll_filter l (delP es q.seq) h2
    simp only [delAll, List.foldl_cons] at this ⊢
    rw [this, delP_filter h, List.filter_filter]
    refine List.filter_congr fun p _ => ?_
    simp only [List.any_cons, Bool.not_or]
    rw [Bool.and_comm]
    congr 1
    rw [Bool.eq_iff_iff]
    simp only [Bool.not_eq_true', beq_eq_false_iff_ne, ne_eq]
    exact ⟨fun h e => h e.symm, fun h e => h e.symm⟩

theorem delAll_exp (L : LSt) (h : L.Ok) (att tmo : Int) : delAll L.es (expP L att tmo) = (expL L att tmo).es := by
  rw [delAll_filter _ _ h.sorted]
  refine List.filter_congr fun p hp => ?_
  congr 1
  rw [Bool.eq_iff_iff, List.any_eq_true]
  constructor
  · rintro ⟨q, hq, he⟩
    have hq' := List.mem_filter.1 hq
    have := seq_uniq h.sorted hq'.1 hp (by simpa using he)
    subst this
    exact hq'.2
  · intro ho
    exact ⟨p, List.mem_filter.2 ⟨hp, ho⟩, by simp⟩

theorem e17ok : EntsOk Try.prog e17 := ⟨k17, trivial⟩
theorem e19ok : EntsOk Try.prog e19 := ⟨k19, trivial⟩

theorem most_ok (L : LSt) (h : L.Ok) : L.es.length ≤ most := by
  have := h.len; have := h.room; unfold most; omega

set_option maxRecDepth 100000 in
theorem open19 (L : LSt) (h : L.Ok) :
    CallsA Try.prog 19 [.e (.s (.ptr 0 0))] (lhp L) fun r H' => r = .e (.s (.sl 2 4 0 L.es.length 0)) ∧ H' = lhp L ++ [.row 36 4 L.es.length (pkG L.es)] := by
  refine calls_of fine e19ok 2 19 _ _ ?_
  show (t19 L).sat _ _
  rw [t19_eq]
  refine CallsA.mono (some41 (some41_open L) (most_ok L h)) ?_
  intro r H' hx
  cases hx with | intro d hx =>
  have hp := hx.1
  have hs := hx.2.1
  have hr := hx.2.2.1
  have hH := hx.2.2.2
  clear hx
  have hd : d = L.es := perm_sorted (by rwa [List.filter_eq_self.2 fun _ _ => rfl] at hp) hs h.sorted
  rw [hr, hH, hd]
  show (t19c L L.es.length fun j => L.es.getD j Pkt.zero).sat _ _
  rw [t19c_eq]
  exact ⟨rfl, rfl⟩

def ehp (L : LSt) (att tmo : Int) : Heap := lhp (expL L att tmo) ++ [.row 36 4 (expP L att tmo).length (pkG (expP L att tmo))]

set_option maxRecDepth 100000 in
theorem expire17 (L : LSt) (h : L.Ok) (att tmo : Int) (ha : I64 att) (ht : I64 tmo) :
    CallsA Try.prog 17 [.e (.s (.ptr 0 0)), .d (.int .i64 att), .d (.int .i64 tmo)] (lhp L) fun r H' => r = .e (.s (.sl 2 4 0 (expP L att tmo).length 0)) ∧ H' = ehp L att tmo := by
  refine CallsA.re (calls_of fine e17ok 2 17 _ _ ?_)
  show (t17 L att tmo).sat _ _
  rw [t17_eq]
  refine CallsA.mono (some41 (some41_expire L att tmo) (most_ok L h)) ?_
  intro r H' hx
  cases hx with | intro d hx =>
  have hp := hx.1
  have hs := hx.2.1
  have hr := hx.2.2.1
  have hH := hx.2.2.2
  clear hx
  rw [filter_over L h ha ht] at hp
  have hd : d = expP L att tmo := perm_sorted hp hs (h.sorted.sublist List.filter_sublist)
  rw [hr, hH, hd]
  clear hr hH hd hp hs d
  generalize hd : expP L att tmo = d
  have hdl : d.length ≤ most := by rw [← hd]; exact Nat.le_trans (List.length_filter_le _ _) (most_ok L h)
  generalize hf : (fun j => d.getD j Pkt.zero) = f
  have hfe : ∀ j, f j = d.getD j Pkt.zero := fun j => by rw [← hf]
  have hG : pkG d = pkF f := by rw [← hf]; rfl
  have hend : ([.cells 86 (lc L 1), .pm (delAll L.es d), .row 36 4 d.length (pkF f)] : Heap) = ehp L att tmo := by
    rw [← hG, ← hd, delAll_exp L h]; rfl
  rw [hG]
  unfold most at hdl
  show (t17c L att tmo d.length f).sat _ _
  rw [t17c_eq]
  refine code_loop fine e17ok 1 (live := [0, 7, 15, 16, 17]) (N := 29) kl17
      (fun xs H => ∃ i : Nat, i ≤ d.length ∧ xs = x17 d.length i ∧ H = H17 L (delAll L.es (d.take i)) att tmo d.length f)
      (fun xs _ => d.length - ctr 4 xs) ?_ ?_ rfl ?_
  · rintro xs H ⟨i, _, _, rfl⟩; show 2 ≤ 5; omega
  · intro xs H vs hI
    cases hI with | intro i hI =>
    have hi := hI.1
    have hxs := hI.2.1
    have hH := hI.2.2
    clear hI
    rw [hxs, hH]
    have e := t17b_eq L (delAll L.es (d.take i)) att tmo d.length f i vs
    unfold t17b at e
    rw [e]
    refine ⟨fun hlt => ?_, fun hge => ?_⟩
    · have hlt : i < d.length := by simpa using hlt
      have hn := take_next hlt
      simp only [Int.toNat_natCast, Nat.zero_add, hfe]
      refine ⟨by omega, by omega, Re.ren [some 0, some 1, some 2, some 3, some 4] rfl rfl rfl (.refl ⟨⟨i + 1, by omega, ?_, ?_⟩, ?_⟩)⟩
      · rw [wrap_succ (by omega)]; rfl
      · rw [hn]
        simp [H17, delAll, lc]
      · simp only [ctr, List.getD_cons_succ, List.getD_cons_zero, asInt, Option.getD_some, x17]
        rw [wrap_succ (by omega)]
        omega
    · have hge : d.length ≤ i := by simpa using hge
      have hi' : i = d.length := by omega
      intro vs
      rw [hi', List.take_of_length_le (Nat.le_refl _)]
      show (t17k L (delAll L.es d) att tmo d.length f (d.length : Nat) vs).sat _ _
      rw [t17k_eq]
      refine Re.ren [some 0, some 1, some 4] rfl rfl rfl (.refl ⟨_, rfl, rfl, hend⟩)
  · exact .toDm [false, false, false, false, true] [] (.refl ⟨0, Nat.zero_le _, rfl, rfl⟩)

theorem s19ok : (Ent.summ s19).ok Try.prog 19 := by
  intro args H Q hq
  unfold s19 at hq
  split at hq
  · rename_i l
    split at hq
    · rename_i L lm hl
      obtain ⟨hL, hq⟩ := hq
      refine (led_lift (ex := [.row 36 4 L.es.length (pkG L.es)]) hl ?_ ?_ rfl (open19 L hL)).mono ?_
      · intro ms; rfl
      · rfl
      · rintro r H' ⟨rfl, rfl⟩
        exact hq
    · exact hq.elim
  · exact hq.elim

theorem s17ok : (Ent.summ s17).ok Try.prog 17 := by
  intro args H Q hq
  unfold s17 at hq
  split at hq
  · rename_i l a b
    split at hq
    · rename_i L lm att tmo hl ha hb
      obtain ⟨⟨hL, h1, h2⟩, hq⟩ := hq
      obtain ⟨a1, a2⟩ := numA_facts ha
      obtain ⟨b1, b2⟩ := numA_facts hb
      refine (led_lift (ex := [.row 36 4 (expP L att tmo).length (pkG (expP L att tmo))]) hl ?_ ?_ rfl ((expire17 L hL att tmo h1 h2).mono fun r H' h => ⟨h.1, h.2⟩)).mono ?_
      · intro ms; simp only [renFr, a1, b1]
      · simp only [List.map_cons, List.map_nil, a2, b2]
      · rintro r H' ⟨rfl, rfl⟩
        exact hq
    · exact hq.elim
  · exact hq.elim

end Go.Proofs.Ythckkoledhjmeaa.Ev
