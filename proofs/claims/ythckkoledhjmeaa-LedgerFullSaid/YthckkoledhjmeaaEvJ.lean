/-
  The abstract evaluator: append.
-/
import Derived.Test.YthckkoledhjmeaaEvI
namespace Go.Proofs.Ythckkoledhjmeaa.Ev
open Go

section
variable {P : Program} {E : Env} {H : Heap} {fr : List AV} {a : Act} {w : World}

/-- A block that nothing asks for any more. -/
theorem step_dead (h : HRep E H w) (l : Nat) : Step H.length E H w E (H.set l .dead) w := by
  have get : ∀ {l' : Nat} {C : AB}, (H.set l .dead)[l']? = some C → H[l']? = some C ∨ C = .dead := by
    intro l' C hc
    rcases get_set hc with ⟨_, h8⟩ | ⟨_, h8, _⟩
    · exact .inl h8
    · exact .inr h8.symm
  have old : ∀ b, Im E (H.set l .dead) b → Im E H b := by
    rintro b ⟨l', C, hl', hc, rfl⟩
    rcases get hl' with h6 | rfl
    · exact ⟨l', C, h6, hc, rfl⟩
    · cases hc
  refine ⟨.refl _ _, by simp, ⟨fun l' C hl' => ?_, fun l' C hl' => ?_, fun l1 l2 C1 C2 hl1 hl2 ho1 ho2 he => ?_, fun l' k n g hl' hn hi => ?_⟩, rfl, rfl, rfl, Nat.le_refl _, fun _ _ _ => rfl, fun b _ => old b⟩
  · rcases get hl' with h6 | rfl
    · exact h.rep l' C h6
    · trivial
  · rw [List.length_set]
    rcases get hl' with h6 | rfl
    · exact h.ok l' C h6
    · trivial
  · rcases get hl1 with h6 | rfl
    · rcases get hl2 with g6 | rfl
      · exact h.inj l1 l2 C1 C2 h6 g6 ho1 ho2 he
      · cases ho2
    · cases ho1
  · rcases get hl' with h6 | h8
    · exact h.ro l' k n g h6 hn (old _ hi)
    · cases h8

theorem push_row (h : HRep E H w) {t k N cap : Nat} {g : Nat → List Value} {cs : Array Value} (hk : 0 < k) (hc : N ≤ cap) (hs : cs.size = cap * k) (hg : ∀ i, i < N → ∀ j, j < k → cs[i * k + j]? = (g i)[j]?)
    (hl : ∀ i, i < N → (g i).length = k) (h1 : ∀ i, i < N → ∀ v ∈ g i, v.oneCell' = true) :
    Step H.length E H w (E.push H.length w.heap.size 0 cap false) (H ++ [.row t k N g]) (w.drew.alloc (.cells cs t)) := by
  refine step_push h (Env.push_agree E H.length w.heap.size 0 cap false) (fun _ => by simp) ?_ trivial (fun _ _ _ => by simp) (fun b hb => heap_alloc_old w.drew _ hb) (by simp) rfl rfl rfl
  refine RowR.mk hk (fun hn => by simp at hn) (fun _ => by simpa using hc) (fun _ => ⟨cs, ?_, fun _ => by simp [hs], fun i hi j hj => ?_⟩) hl h1
  · simp only [Env.push_blk]; exact heap_alloc_new w.drew _
  · simp only [Env.push_base, Nat.zero_add]; exact hg i hi j hj

theorem push_nil (h : HRep E H w) {t k : Nat} {g : Nat → List Value} (hk : 0 < k) : Step H.length E H w (E.push H.length 0 0 0 true) (H ++ [.row t k 0 g]) w := by
  refine step_push h (Env.push_agree E H.length 0 0 0 true) (fun hn => by simp [AB.own] at hn) ?_ trivial (fun _ _ _ => by simp) (fun b hb => rfl) (by simp) rfl rfl rfl
  exact RowR.mk hk (fun _ => rfl) (fun hn => by simp at hn) (fun hn => by simp at hn) (fun i hi => by omega) (fun i hi => by omega)

/-! ### Rows that are read -/

structure RowsR (E : Env) (w : World) (l k N : Nat) (g : Nat → List Value) : Prop where
  pos : 0 < k
  nil : E.nil l = true → N = 0
  cap : E.nil l = false → N ≤ E.cap l
  mem : E.nil l = false → ∀ i, i < N → ∀ j, j < k → w.cell? ⟨E.blk l, E.base l + i * k + j, none⟩ = (g i)[j]?
  len : ∀ i, i < N → (g i).length = k
  one : ∀ i, i < N → ∀ v ∈ g i, v.oneCell' = true

theorem RowR.rows {l ty k N : Nat} {g : Nat → List Value} (h : RowR E w l ty k N g) : RowsR E w l k N g :=
  ⟨h.pos, h.nil, h.cap, fun hn i hi j hj => by
    obtain ⟨vs, hv, _, hm⟩ := h.mem hn
    rw [← hm i hi j hj]
    simp [World.cell?, hv], h.len, h.one⟩

theorem rowOf_rows (h : HRep E H w) {l k N : Nat} {g : Nat → List Value} (hr : rowOf H l = some (k, N, g)) : RowsR E w l k N g := by
  unfold rowOf at hr
  split at hr
  · rename_i hl; cases hr; exact RowR.rows (h.rep l _ hl)
  · rename_i hl
    cases hr
    have hB : RoR E w l k N g := h.rep l _ hl
    exact ⟨hB.pos, hB.nil, hB.cap, fun hn => (hB.mem hn).2, hB.len, hB.one⟩
  · rename_i ty k' ch hl
    cases hr
    exact RowR.rows (h.rep l _ hl)
  · cases hr

theorem ownRow_row (h : HRep E H w) {l ty k N : Nat} {g : Nat → List Value} (hr : ownRow H l = some (ty, k, N, g)) : RowR E w l ty k N g ∧ ∃ B0, H[l]? = some B0 ∧ B0.own (E.nil l) = !E.nil l := by
  unfold ownRow at hr
  split at hr
  · rename_i hl; cases hr; exact ⟨h.rep l _ hl, _, hl, rfl⟩
  · rename_i ty k' ch hl
    cases hr
    exact ⟨h.rep l _ hl, _, hl, rfl⟩
  · cases hr

/-- A slice's cells. -/
theorem src_cells {l k i n z N : Nat} {g : Nat → List Value} (h : RowsR E w l k N g) (hok : SV.ok E (.sl l k i n z)) (hn : i + n ≤ N) :
    ∃ b c, (SV.sl l k i n z).conc E = .slice b n c ∧ (flatG g i n).length = n * k ∧ (∀ v ∈ flatG g i n, v.oneCell' = true) ∧ (∀ j, j < n → (g (i + j)).length = k) ∧
      (0 < n → E.nil l = false ∧ i < E.cap l ∧ b = some ⟨E.blk l, E.base l + i * k, none⟩ ∧ ∀ j u, (flatG g i n)[j]? = some u → w.cell? ((⟨E.blk l, E.base l + i * k, none⟩ : Addr).add j) = some u) := by
  have hlen : ∀ j, j < n → (g (i + j)).length = k := fun j hj => h.len _ (by omega)
  have h1 := flatG_length g i k n hlen
  have h2 := flatG_one g i n fun j hj => h.one _ (by omega)
  simp only [SV.ok] at hok
  cases hnil : E.nil l with
  | true =>
    have h0 := hok.1 hnil
    exact ⟨none, 0, by simp [SV.conc, hnil, h0], h1, h2, hlen, fun h => by omega⟩
  | false =>
    refine ⟨some ⟨E.blk l, E.base l + (if i = E.cap l then z else i) * k, none⟩, E.cap l - i, by simp only [SV.conc, hnil], h1, h2, hlen, fun h0 => ?_⟩
    have hc := hok.2 hnil
    refine ⟨rfl, by omega, by rw [if_neg (by omega)], fun j u hj => ?_⟩
    obtain ⟨q, r, hq, hr, rfl, hu⟩ := flat_cell hlen hj
    rw [add_lit, ← hu, ← h.mem hnil (i + q) (by omega) r hr]
    congr 2
    rw [Nat.add_mul]
    omega

theorem app_len {g g2 : Nat → List Value} {i n k i2 m : Nat} (h1 : ∀ j, j < n → (g (i + j)).length = k) (h2 : ∀ j, j < m → (g2 (i2 + j)).length = k) {j : Nat} (hj : j < n + m) : (appendG g i n g2 i2 j).length = k := by
  simp only [appendG]
  split
  · exact h1 _ (by omega)
  · exact h2 _ (by omega)

theorem app_one {g g2 : Nat → List Value} {i n i2 m : Nat} (h1 : ∀ j, j < n → ∀ v ∈ g (i + j), v.oneCell' = true) (h2 : ∀ j, j < m → ∀ v ∈ g2 (i2 + j), v.oneCell' = true) {j : Nat} (hj : j < n + m) : ∀ v ∈ appendG g i n g2 i2 j, v.oneCell' = true := by
  simp only [appendG]
  split
  · exact h1 _ (by omega)
  · exact h2 _ (by omega)

theorem app_get {g g2 : Nat → List Value} {i n k i2 m : Nat} (h1 : ∀ j, j < n → (g (i + j)).length = k) (h2 : ∀ j, j < m → (g2 (i2 + j)).length = k) (Z : List Value) {j r : Nat} (hj : j < n + m) (hr : r < k) :
    (flatG g i n ++ flatG g2 i2 m ++ Z)[j * k + r]? = (appendG g i n g2 i2 j)[r]? := by
  have l1 := flatG_length g i k n h1
  have l2 := flatG_length g2 i2 k m h2
  have hb : (j + 1) * k ≤ (n + m) * k := Nat.mul_le_mul_right k hj
  rw [Nat.add_mul, Nat.one_mul, Nat.add_mul] at hb
  rw [List.getElem?_append_left (by rw [List.length_append]; omega)]
  simp only [appendG]
  split
  · rename_i hjn
    have hb2 : (j + 1) * k ≤ n * k := Nat.mul_le_mul_right k hjn
    rw [Nat.add_mul, Nat.one_mul] at hb2
    rw [List.getElem?_append_left (by omega), flatG_get g i k n h1 j r hjn hr]
  · rename_i hjn
    have hb2 : n * k ≤ j * k := Nat.mul_le_mul_right k (by omega)
    rw [List.getElem?_append_right (by omega), l1, show j * k + r - n * k = (j - n) * k + r by rw [Nat.sub_mul]; omega, flatG_get g2 i2 k m h2 (j - n) r (by omega) hr]

/-! ### append -/

structure Fit (P : Program) (e k : Nat) (i : TypeInfo) (z : Value) : Prop where
  info : P.info? e = some i
  size : i.size = k
  bytes : i.bytes ≤ 1000
  zero : i.zero = some z
  cells : z.cells.size = k

theorem fitE_fit {e k : Nat} (h : fitE P e k = true) : ∃ i z, Fit P e k i z := by
  unfold fitE at h
  split at h
  · rename_i i hi
    cases hz : i.zero with
    | none => simp [hz] at h
    | some z =>
      simp only [hz, Bool.and_eq_true, beq_iff_eq, decide_eq_true_eq] at h
      exact ⟨i, z, hi, h.1.1, h.1.2, hz, h.2⟩
  · cases h

theorem run_append_none {t ty e : TypeId} {i : TypeInfo} (ht : P.underlying t = some (.slice e)) (hi : P.info? e = some i) (b : Option Addr) (n c : Nat) (h : n ≤ c) (b2 : Option Addr) (c2 : Nat) :
    (Builtin.append_ #[t, t] ty #[.slice b n c, .slice b2 0 c2]).run P w = .ok (.slice b n c) w := by
  have hf : (Builtin.firstCells i.size 0 (.slice b2 0 c2)).run P w = .ok #[] w := by
    cases b2 with
    | none => rfl
    | some a => exact run_firstCells_some (P := P) w i.size 0 a 0 c2 [] (by simp) (by simp)
  cases b <;> simp [Builtin.append_, run_underlying ht, sizeOf, typeInfo, hi, Builtin.lenOf, hf, h, storeCells]

theorem run_append_in {t ty e ety : TypeId} {i : TypeInfo} (ht : P.underlying t = some (.slice e)) (hi : P.info? e = some i)
    (g off sLen sCap : Nat) (cur : Array Value) (hg : w.heap[g]? = some (.cells cur ety (0, 0)))
    (a : Addr) (m c : Nat) (news : List Value) (hl : news.length = m * i.size) (hnews : ∀ j u, news[j]? = some u → w.cell? (a.add j) = some u) (h1 : ∀ u ∈ news, u.oneCell' = true)
    (hroom : sLen + m ≤ sCap) (hfit : off + sLen * i.size + news.length ≤ cur.size) :
    (Builtin.append_ #[t, t] ty #[.slice (some ⟨g, off, none⟩) sLen sCap, .slice (some a) m c]).run P w =
      .ok (.slice (some ⟨g, off, none⟩) (sLen + m) sCap) (w.setRow g (cur.toList.take (off + sLen * i.size) ++ news ++ cur.toList.drop (off + sLen * i.size + news.length)).toArray) := by
  have hf := run_firstCells_some (P := P) w i.size m a m c news hl hnews
  have hst := run_storeCells_at P g (off + sLen * i.size) ety news 0 cur w hg (by simpa using hfit) h1
  simp only [Nat.add_zero] at hst
  simp [Builtin.append_, run_underlying ht, sizeOf, typeInfo, hi, Builtin.lenOf, hroom, hf, Addr.add_lit, hst]

/-- A slice of cells of the call's own, lengthened. -/
theorem append_own (h : HRep E H w) {l ty k N i n z : Nat} {g : Nat → List Value} (hr : ownRow H l = some (ty, k, N, g)) (hok : SV.ok E (.sl l k i n z)) (hn : i + n ≤ N)
    {l2 N2 i2 m z2 : Nat} {g2 : Nat → List Value} (hr2 : rowOf H l2 = some (k, N2, g2)) (hok2 : SV.ok E (.sl l2 k i2 m z2)) (hm : i2 + m ≤ N2) (hmost : n + m ≤ most)
    {t vt : TypeId} (ht : P.underlying t = some (.slice ty)) {inf : TypeInfo} {zv : Value} (hfit : Fit P ty k inf zv) :
    ∃ E' w', (Builtin.append_ #[t, t] vt #[(SV.sl l k i n z).conc E, (SV.sl l2 k i2 m z2).conc E]).run P w = .ok ((SV.sl H.length k 0 (n + m) 0).conc E') w' ∧
      Step H.length E H w E' (H.set l .dead ++ [.row ty k (n + m) (appendG g i n g2 i2)]) w' ∧ SV.ok E' (.sl H.length k 0 (n + m) 0) := by
  obtain ⟨hrow, B0, hl, hown⟩ := ownRow_row h hr
  have hrows := hrow.rows
  have hrows2 := rowOf_rows h hr2
  obtain ⟨b, c, e1, q1, q2, q3, q4⟩ := src_cells hrows hok hn
  obtain ⟨b2, c2, e2, p1, p2, p3, p4⟩ := src_cells hrows2 hok2 hm
  have hk := hrow.pos
  have hone1 : ∀ j, j < n → ∀ v ∈ g (i + j), v.oneCell' = true := fun j hj => hrow.one _ (by omega)
  have hone2 : ∀ j, j < m → ∀ v ∈ g2 (i2 + j), v.oneCell' = true := fun j hj => hrows2.one _ (by omega)
  have hmx : maxLen = maxLen := rfl
  have hmost' : most = 1000000 := rfl
  have hd := step_dead h l
  have hdl : (H.set l .dead).length = H.length := by simp
  have hbytes : (n + m) * inf.bytes ≤ 140737488355328 := by
    have : (n + m) * inf.bytes ≤ 1000000 * 1000 := Nat.mul_le_mul (by omega) hfit.bytes
    omega
  -- a new row
  have grow : ∀ cap, n + m ≤ cap → Step H.length E H w (E.push H.length w.heap.size 0 cap false) (H.set l .dead ++ [.row ty k (n + m) (appendG g i n g2 i2)]) (w.drew.alloc (.cells ((flatG g i n).toArray ++ (flatG g2 i2 m).toArray ++ Builtin.zeroCells zv.cells (cap - (n + m))) ty)) ∧ SV.ok (E.push H.length w.heap.size 0 cap false) (.sl H.length k 0 (n + m) 0) ∧
      (SV.sl H.length k 0 (n + m) 0).conc (E.push H.length w.heap.size 0 cap false) = .slice (some ⟨w.heap.size, 0, none⟩) (n + m) cap := by
    intro cap hcap
    have hp := push_row (t := ty) (k := k) (N := n + m) (cap := cap) (g := appendG g i n g2 i2) hd.rep (cs := (flatG g i n).toArray ++ (flatG g2 i2 m).toArray ++ Builtin.zeroCells zv.cells (cap - (n + m))) hk hcap (by
        simp only [Array.size_append, List.size_toArray, size_zeroCells, hfit.cells, q1, p1, ← Nat.add_mul]
        congr 1
        omega) (fun i hi j hj => by
          have := app_get q3 p3 (Builtin.zeroCells zv.cells (cap - (n + m))).toList hi hj
          rw [← this, ← Array.getElem?_toList]
          simp) (fun j hj => app_len q3 p3 hj) (fun j hj => app_one hone1 hone2 hj)
    rw [hdl] at hp
    refine ⟨hd.trans hp (Nat.le_refl _), ⟨fun hh => by simp at hh, fun _ => by simpa using hcap⟩, ?_⟩
    simp only [SV.conc, Env.push_nil, Env.push_blk, Env.push_base, Env.push_cap]
    simp only [ite_self, Nat.zero_mul, Nat.add_zero, Nat.sub_zero]
  rw [e1, e2]
  by_cases h0 : m = 0
  · -- nothing to append
    subst h0
    cases hnil : E.nil l with
    | true =>
      have hn0 : n = 0 := hok.1 hnil
      subst hn0
      have hc : b = none ∧ c = 0 := by
        rw [SV.conc, hnil] at e1
        cases e1
        exact ⟨rfl, rfl⟩
      obtain ⟨rfl, rfl⟩ := hc
      have hp := push_nil (t := ty) (k := k) (g := appendG g i 0 g2 i2) hd.rep hk
      rw [hdl] at hp
      refine ⟨E.push H.length 0 0 0 true, w, ?_, hd.trans hp (Nat.le_refl _), ⟨fun _ => rfl, fun hh => by simp at hh⟩⟩
      rw [run_append_none ht hfit.info none 0 0 (Nat.le_refl _)]
      simp [SV.conc]
    | false =>
      have hcap := hok.2 hnil
      obtain ⟨vs, hv, hsz, hmem⟩ := hrow.mem hnil
      have hc : b = some ⟨E.blk l, E.base l + (if i = E.cap l then z else i) * k, none⟩ ∧ c = E.cap l - i := by
        rw [SV.conc, hnil] at e1
        simp only [Value.slice.injEq] at e1
        exact ⟨e1.1.symm, e1.2.2.symm⟩
      obtain ⟨rfl, rfl⟩ := hc
      refine ⟨E.push H.length (E.blk l) (E.base l + (if i = E.cap l then z else i) * k) (E.cap l - i) false, w, ?_, ?_, ⟨fun hh => by simp at hh, fun _ => by simp; omega⟩⟩
      · rw [run_append_none ht hfit.info _ n _ (by omega)]
        simp only [SV.conc, Env.push_nil, Env.push_blk, Env.push_base, Env.push_cap]
        simp only [ite_self, Nat.zero_mul, Nat.add_zero, Nat.sub_zero]
      · refine step_move h hl (by rw [hown, hnil]; rfl) (Env.push_agree _ _ _ _ _ _) (by simp) ?_ trivial (fun _ _ _ => by simp) (fun _ _ => rfl) rfl rfl rfl rfl
        refine RowR.mk hk (fun hh => by simp at hh) (fun _ => by simp; omega) (fun _ => ⟨vs, by simpa using hv, fun h5 => ?_, fun j hj r hr => ?_⟩) (fun j hj => app_len q3 p3 hj) (fun j hj => app_one hone1 hone2 hj)
        · simp only [Env.push_cap, Env.push_base] at h5 ⊢
          have := hsz (by omega)
          rw [if_neg (by omega), Nat.sub_mul]
          have : i * k ≤ E.cap l * k := Nat.mul_le_mul_right k (by omega)
          omega
        · simp only [Env.push_base]
          rw [if_neg (by omega), Nat.add_zero] at *
          have := hmem (i + j) (by omega) r hr
          simp only [appendG, if_pos (show j < n by omega)]
          rw [← this]
          congr 1
          rw [Nat.add_mul]
          omega
  · obtain ⟨hnil2, hi2, rfl, hcell2⟩ := p4 (by omega)
    by_cases hroom : E.nil l = false ∧ n + m ≤ E.cap l - i
    · -- in place
      obtain ⟨hnil, hroom⟩ := hroom
      obtain ⟨vs, hv, hsz, hmem⟩ := hrow.mem hnil
      have hsz := hsz (by omega)
      have hc : b = some ⟨E.blk l, E.base l + i * k, none⟩ ∧ c = E.cap l - i := by
        rw [SV.conc, hnil] at e1
        simp only [Value.slice.injEq] at e1
        rw [if_neg (by omega)] at e1
        exact ⟨e1.1.symm, e1.2.2.symm⟩
      obtain ⟨rfl, rfl⟩ := hc
      have hcapk : (i + (n + m)) * k ≤ E.cap l * k := Nat.mul_le_mul_right k (by omega)
      rw [Nat.add_mul, Nat.add_mul] at hcapk
      have hrun := run_append_in (P := P) (w := w) (ty := vt) ht hfit.info (E.blk l) (E.base l + i * k) n (E.cap l - i) vs hv ⟨E.blk l2, E.base l2 + i2 * k, none⟩ m c2 (flatG g2 i2 m) (by rw [p1, hfit.size]) hcell2 p2 hroom (by rw [hfit.size, p1]; omega)
      rw [hfit.size, p1] at hrun
      refine ⟨E.push H.length (E.blk l) (E.base l + i * k) (E.cap l - i) false, w.setRow (E.blk l) (vs.toList.take (E.base l + i * k + n * k) ++ flatG g2 i2 m ++ vs.toList.drop (E.base l + i * k + n * k + m * k)).toArray, ?_, ?_, ⟨fun hh => by simp at hh, fun _ => by simp; omega⟩⟩
      · rw [hrun]
        simp only [SV.conc, Env.push_nil, Env.push_blk, Env.push_base, Env.push_cap]
        rw [if_neg (by omega)]
        simp
      · refine step_move h hl (by rw [hown, hnil]; rfl) (Env.push_agree _ _ _ _ _ _) (by simp) ?_ trivial (fun _ _ _ => by simp) (fun b hb => setRow_other w _ _ _ hb) (by simp) rfl rfl rfl
        refine RowR.mk hk (fun hh => by simp at hh) (fun _ => by simp; omega) (fun _ => ⟨_, by simpa using setRow_heap w _ _ _ _ _ hv, fun h5 => ?_, fun j hj r hr => ?_⟩) (fun j hj => app_len q3 p3 hj) (fun j hj => app_one hone1 hone2 hj)
        · simp only [Env.push_cap, Env.push_base, List.size_toArray, List.length_append, List.length_take, List.length_drop, Array.length_toList, p1, Nat.sub_mul]
          omega
        · simp only [Env.push_base, List.getElem?_toArray]
          have hjk : (j + 1) * k ≤ (n + m) * k := Nat.mul_le_mul_right k hj
          rw [Nat.add_mul, Nat.one_mul, Nat.add_mul] at hjk
          simp only [appendG]
          split
          · rename_i hjn
            have hjk2 : (j + 1) * k ≤ n * k := Nat.mul_le_mul_right k hjn
            rw [Nat.add_mul, Nat.one_mul] at hjk2
            have := hmem (i + j) (by omega) r hr
            rw [← this, List.getElem?_append_left (by simp; omega), List.getElem?_take_of_lt (by omega), Array.getElem?_toList]
            congr 1
            rw [Nat.add_mul]
            omega
          · rename_i hjn
            have hjk2 : n * k ≤ j * k := Nat.mul_le_mul_right k (by omega)
            have hlt : (vs.toList.take (E.base l + i * k + n * k)).length = E.base l + i * k + n * k := by simp; omega
            rw [List.getElem?_append_right (by omega), hlt, List.getElem?_append_left (by rw [p1]; omega), show E.base l + i * k + j * k + r - (E.base l + i * k + n * k) = (j - n) * k + r by rw [Nat.sub_mul]; omega, flatG_get g2 i2 k m p3 (j - n) r (by omega) hr]
    · -- a new row
      have hcn : c < n + m := by
        rw [SV.conc] at e1
        cases hnil : E.nil l with
        | true => rw [hnil] at e1; simp only [Value.slice.injEq] at e1; omega
        | false =>
          rw [hnil] at e1
          simp only [Value.slice.injEq] at e1
          have : ¬ (n + m ≤ E.cap l - i) := fun h5 => hroom ⟨hnil, h5⟩
          omega
      have hge := grownCap_ge w (n + m) c ty
      by_cases hn0 : n = 0
      · subst hn0
        have hb : (b = none ∧ c = 0) ∨ ∃ a, b = some a := by
          rw [SV.conc] at e1
          cases hnil : E.nil l with
          | true => rw [hnil] at e1; simp only [Value.slice.injEq] at e1; exact .inl ⟨e1.1.symm, e1.2.2.symm⟩
          | false => rw [hnil] at e1; simp only [Value.slice.injEq] at e1; exact .inr ⟨_, e1.1.symm⟩
        rcases hb with ⟨rfl, rfl⟩ | ⟨ab, rfl⟩
        · have hrun := run_append_nil (P := P) w t vt ty inf zv ht hfit.info hfit.zero ⟨E.blk l2, E.base l2 + i2 * k, none⟩ m c2 (flatG g2 i2 m) (by rw [p1, hfit.size]) hcell2 (by omega) (by omega) (by
            have := hbytes
            simp only [Nat.zero_add] at this
            omega)
          obtain ⟨g1, g2', g3⟩ := grow (grownCap w m 0 ty) (by simpa using hge)
          refine ⟨_, _, ?_, g1, g2'⟩
          rw [hrun, g3]
          simp [flatG]
        · have hrun := run_append_grow (P := P) w t vt ty inf zv ht hfit.info hfit.zero ab 0 c [] (by simp) (by simp) ⟨E.blk l2, E.base l2 + i2 * k, none⟩ m c2 (flatG g2 i2 m) (by rw [p1, hfit.size]) hcell2 hcn (by omega) (growslice_fits hcn hbytes)
          obtain ⟨g1, g2', g3⟩ := grow (grownCap w (0 + m) c ty) hge
          refine ⟨_, _, ?_, g1, g2'⟩
          rw [hrun, g3]
          simp [flatG]
      · obtain ⟨hnil, hic, rfl, hcell⟩ := q4 (by omega)
        have hrun := run_append_grow (P := P) w t vt ty inf zv ht hfit.info hfit.zero ⟨E.blk l, E.base l + i * k, none⟩ n c (flatG g i n) (by rw [q1, hfit.size]) hcell ⟨E.blk l2, E.base l2 + i2 * k, none⟩ m c2 (flatG g2 i2 m) (by rw [p1, hfit.size]) hcell2 hcn (by omega) (growslice_fits hcn hbytes)
        obtain ⟨g1, g2', g3⟩ := grow (grownCap w (n + m) c ty) hge
        refine ⟨_, _, ?_, g1, g2'⟩
        rw [hrun, g3]

/-- A nil slice that is lengthened. -/
theorem append_nilD (h : HRep E H w) {ty k : Nat} (hk : 0 < k)
    {l2 N2 i2 m z2 : Nat} {g2 : Nat → List Value} (hr2 : rowOf H l2 = some (k, N2, g2)) (hok2 : SV.ok E (.sl l2 k i2 m z2)) (hm : i2 + m ≤ N2) (hmost : m ≤ most)
    {t vt : TypeId} (ht : P.underlying t = some (.slice ty)) {inf : TypeInfo} {zv : Value} (hfit : Fit P ty k inf zv) :
    ∃ E' w', (Builtin.append_ #[t, t] vt #[.slice none 0 0, (SV.sl l2 k i2 m z2).conc E]).run P w = .ok ((SV.sl H.length k 0 m 0).conc E') w' ∧
      Step H.length E H w E' (H ++ [.row ty k m (fun j => g2 (i2 + j))]) w' ∧ SV.ok E' (.sl H.length k 0 m 0) := by
  have hrows2 := rowOf_rows h hr2
  obtain ⟨b2, c2, e2, p1, p2, p3, p4⟩ := src_cells hrows2 hok2 hm
  have hmost' : most = 1000000 := rfl
  rw [e2]
  by_cases h0 : m = 0
  · subst h0
    refine ⟨E.push H.length 0 0 0 true, w, ?_, push_nil h hk, ⟨fun _ => rfl, fun hh => by simp at hh⟩⟩
    rw [run_append_none ht hfit.info none 0 0 (Nat.le_refl _)]
    simp [SV.conc]
  · obtain ⟨hnil2, hi2, rfl, hcell2⟩ := p4 (by omega)
    have hge := grownCap_ge w m 0 ty
    have hb : m * inf.bytes ≤ 1000000 * 1000 := Nat.mul_le_mul (by omega) hfit.bytes
    have hrun := run_append_nil (P := P) w t vt ty inf zv ht hfit.info hfit.zero ⟨E.blk l2, E.base l2 + i2 * k, none⟩ m c2 (flatG g2 i2 m) (by rw [p1, hfit.size]) hcell2 (by omega) (by omega) (by omega)
    have hp := push_row (t := ty) (k := k) (N := m) (cap := grownCap w m 0 ty) (g := fun j => g2 (i2 + j)) h (cs := (flatG g2 i2 m).toArray ++ Builtin.zeroCells zv.cells (grownCap w m 0 ty - m)) hk hge (by
        simp only [Array.size_append, List.size_toArray, size_zeroCells, hfit.cells, p1, ← Nat.add_mul]
        congr 1
        omega) (fun i hi j hj => by
          have hb : (i + 1) * k ≤ m * k := Nat.mul_le_mul_right k hi
          rw [Nat.add_mul, Nat.one_mul] at hb
          rw [← Array.getElem?_toList, Array.toList_append, List.getElem?_append_left (by rw [p1]; omega)]
          exact flatG_get g2 i2 k m p3 i j hi hj) p3 (fun j hj => hrows2.one _ (by omega))
    refine ⟨_, _, ?_, hp, ⟨fun hh => by simp at hh, fun _ => by simpa using hge⟩⟩
    rw [hrun]
    simp only [SV.conc, Env.push_nil, Env.push_blk, Env.push_base, Env.push_cap, ite_self, Nat.zero_mul, Nat.add_zero, Nat.sub_zero]

theorem eff_append (h : HRep E H w) (hf : FRep E H.length fr a) {o : Oper} {args : Array Operand} {argTypes : Array TypeId} (hop : o.op = .call { callee := .builtin .append, args, argTypes }) {Q : AV × Heap → Prop} (hq : (effA P fr H o.op).sat P Q) : EffOk P E H w a o Q := by
  rw [hop] at hq
  simp only [effA] at hq
  have eargs : (args.map a.eval).toList = (args.toList.map (opnd fr)).map (AV.conc E) := by simp [hf.eval]
  have hmem : ∀ x ∈ args.toList.map (opnd fr), x.ok E := by
    intro x hx
    obtain ⟨y, _, rfl⟩ := List.mem_map.1 hx
    exact hf.opnd_ok y
  split at hq
  · rename_i l k0 i n z l2 k02 i2 m z2 t t' h1 h2
    split at hq
    · rename_i ty k N g k2 N2 g2 e hr hr2 he
      split at hq
      · rename_i hc
        obtain ⟨rfl, _, rfl, rfl, rfl, rfl, hfit⟩ := hc
        obtain ⟨⟨c1, c2, c3⟩, hq⟩ := hq
        obtain ⟨inf, zv, hfit⟩ := fitE_fit hfit
        rw [h1] at hmem
        obtain ⟨E', w', hrun, hst, hok⟩ := append_own h hr (ok_s.1 (hmem _ (List.mem_cons_self))) c1 hr2 (ok_s.1 (hmem _ (List.mem_cons_of_mem _ List.mem_cons_self))) c2 c3 (vt := o.type) (run_elemT he) hfit
        have e1 : args.map a.eval = #[(SV.sl l k02 i n z).conc E, (SV.sl l2 k02 i2 m z2).conc E] := by
          rw [← Array.toList_inj, eargs, h1]
          rfl
        have e2 : argTypes = #[t, t] := by rw [← Array.toList_inj]; exact h2
        refine ⟨_, _, _, E', w', ?_, .inl rfl, hst, ?_, ok_s.2 hok, hq⟩
        · simp only [execOp, hop, resolve, e1, e2, invoke, builtin, Sem.run_bind, Sem.run_pure, Result.andThen_ok]
          rw [hrun]
          rfl
        · simp [AV.ref, EV.ref, SV.ref]
      · cases hq
    · cases hq
  · rename_i l2 k02 i2 m z2 t t' h1 h2
    split at hq
    · rename_i k2 N2 g2 e hr2 he
      split at hq
      · rename_i hc
        obtain ⟨rfl, rfl, hk, hfit⟩ := hc
        obtain ⟨⟨c2, c3⟩, hq⟩ := hq
        obtain ⟨inf, zv, hfit⟩ := fitE_fit hfit
        rw [h1] at hmem
        obtain ⟨E', w', hrun, hst, hok⟩ := append_nilD h hk hr2 (ok_s.1 (hmem _ (List.mem_cons_of_mem _ List.mem_cons_self))) c2 c3 (vt := o.type) (run_elemT he) hfit
        have e1 : args.map a.eval = #[.slice none 0 0, (SV.sl l2 k02 i2 m z2).conc E] := by
          rw [← Array.toList_inj, eargs, h1]
          rfl
        have e2 : argTypes = #[t, t] := by rw [← Array.toList_inj]; exact h2
        refine ⟨_, _, _, E', w', ?_, .inl rfl, hst, ?_, ok_s.2 hok, hq⟩
        · simp only [execOp, hop, resolve, e1, e2, invoke, builtin, Sem.run_bind, Sem.run_pure, Result.andThen_ok]
          rw [hrun]
          rfl
        · simp [AV.ref, EV.ref, SV.ref]
      · cases hq
    · cases hq
  · cases hq

/-- Whatever the evaluator says of an operation that turns memory. -/
theorem eff_sat (h : HRep E H w) (hf : FRep E H.length fr a) {o : Oper} {Q : AV × Heap → Prop} (hq : (effA P fr H o.op).sat P Q) : EffOk P E H w a o Q := by
  cases hop : o.op <;> try (rw [hop] at hq; exact hq.elim)
  case alloc t => exact eff_alloc h hf hop hq
  case box t x => exact eff_box h hf hop hq
  case buildSlice t n parts => exact eff_buildSlice h hf hop hq
  case store t x y => exact eff_store h hf hop hq
  case makeMap t c => cases c with
    | none => exact eff_makeMap h hf hop hq
    | some x => rw [hop] at hq; exact hq.elim
  case mapUpdate t m key x => exact eff_mapUpdate h hf hop hq
  case lookup t m key b => cases b with
    | true => exact eff_lookup h hf hop hq
    | false => rw [hop] at hq; exact hq.elim
  case call c =>
    obtain ⟨callee, args, argTypes⟩ := c
    cases callee <;> try (rw [hop] at hq; exact hq.elim)
    rename_i b
    cases b <;> try (rw [hop] at hq; exact hq.elim)
    · exact eff_append h hf hop hq
    · exact eff_delete h hf hop hq

end
end Go.Proofs.Ythckkoledhjmeaa.Ev
