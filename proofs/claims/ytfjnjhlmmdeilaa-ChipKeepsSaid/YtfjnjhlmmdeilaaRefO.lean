/- What becomes of the reference's chip in memory, store by store. -/
import Derived.Test.YtfjnjhlmmdeilaaRefA
set_option linter.unusedVariables false
namespace Go.Proofs.Ytfjnjhlmmdeilaa.RefA
open Go.RowKit Go.Proofs.Ytfjnjhlmmdeilaa.ChipM Go.Proofs.Ytfjnjhlmmdeilaa.ChipA

section
variable {own : Nat → Prop} {w w' : World} {m : Chp} {r rb cap : Nat} {cs : Array Value} {pg : Nat → Nat} {fu : Int} {tx : ByteArray}
def chipR (m : Chp) (rb cap : Nat) (fu : Int) (tx : ByteArray) : Array Value := #[.slice (some ⟨rb, 0, none⟩) m.n cap, .int .i64 m.pages, .int .i64 m.data, .bool m.dead, .bool m.fuse.isSome, .int .i64 fu, .string tx]
theorem RO.turnR (h : RO own w m r rb cap cs pg fu tx) {m' : Chp} {fu' : Int} {tx' : ByteArray} (hs : w.heap.size ≤ w'.heap.size) (hk : ∀ k, own k → k ≠ r → w'.heap[k]? = w.heap[k]?)
    (hr : w'.heap[r]? = some (.cells (chipR m' rb cap fu' tx') 70 (0, 0))) (hn : m'.n = m.n) (hp : m'.pages = m.pages) (hb : m'.blk = m.blk) (f : ∀ k t, m'.fuse = some (k, t) → fu' = (k : Int) ∧ tx' = t) : RO own w' m' r rb cap cs pg fu' tx' :=
  { oc := h.oc, ob := h.ob, og := by rw [hn]; exact h.og, lt := fun k ho => Nat.lt_of_lt_of_le (h.lt k ho) hs, ne := h.ne, gr := by rw [hn]; exact h.gr, inj := by rw [hn]; exact h.inj
    hr := hr, hb := (hk _ h.ob h.ne.symm).trans h.hb
    bs := fun b hb2 => by
      rw [hn] at hb2
      rw [hb, hp]
      have hB := h.bs b hb2
      obtain ⟨ps, h1, h2⟩ := hB.p
      exact ⟨hB.s, hB.wo, hB.b, hB.f, hB.t, ps, (hk _ (h.og b hb2) (h.gr b hb2).1).trans h1, h2⟩
    f := f }
theorem RO.dead (h : RO own w m r rb cap cs pg fu tx) (d : Bool) : RO own (w.setCell ⟨r, 3, none⟩ (.bool d)) { m with dead := d } r rb cap cs pg fu tx :=
  h.turnR (by rw [setCell_size]; exact Nat.le_refl _) (fun k _ hk => heap_setCell_other _ _ _ _ hk) (by rw [heap_setCell_same _ _ _ _ _ _ h.hr]; rfl) rfl rfl rfl h.f
theorem RO.unfuse (h : RO own w m r rb cap cs pg fu tx) : RO own (w.setCell ⟨r, 4, none⟩ (.bool false)) { m with fuse := none } r rb cap cs pg fu tx :=
  h.turnR (by rw [setCell_size]; exact Nat.le_refl _) (fun k _ hk => heap_setCell_other _ _ _ _ hk) (by rw [heap_setCell_same _ _ _ _ _ _ h.hr]; rfl) rfl rfl rfl (fun _ _ e => by cases e)
theorem RO.burn (h : RO own w m r rb cap cs pg fu tx) {n : Nat} {t : ByteArray} (hf : m.fuse = some (n + 1, t)) : RO own (w.setCell ⟨r, 5, none⟩ (.int .i64 (n : Int))) (burn m) r rb cap cs pg (n : Int) tx := by
  have e : (ChipM.burn m).fuse = some (n, t) := by simp [ChipM.burn, hf]
  refine h.turnR (by rw [setCell_size]; exact Nat.le_refl _) (fun k _ hk => heap_setCell_other _ _ _ _ hk) ?_ rfl rfl rfl (fun k u e2 => ?_)
  · rw [heap_setCell_same _ _ _ _ _ _ h.hr]
    unfold chipR
    rw [e, hf]
    rfl
  · rw [e] at e2
    simp only [Option.some.injEq, Prod.mk.injEq] at e2
    obtain ⟨rfl, rfl⟩ := e2
    exact ⟨rfl, (h.f _ _ hf).2⟩
def fuseR (w : World) (r : Nat) (b : Bool) (n : Int) (t : ByteArray) : World := ((w.setCell ⟨r, 4, none⟩ (.bool b)).setCell ⟨r, 5, none⟩ (.int .i64 n)).setCell ⟨r, 6, none⟩ (.string t)
theorem RO.fuse (h : RO own w m r rb cap cs pg fu tx) (n : Int) (t : ByteArray) : RO own (fuseR w r (decide (0 ≤ n)) (min n 1073741824) t) (setFuse m n t) r rb cap cs pg (min n 1073741824) t := by
  have e1 := heap_setCell_same _ _ 4 _ _ (.bool (decide (0 ≤ n))) h.hr
  have e2 := heap_setCell_same _ _ 5 _ _ (.int .i64 (min n 1073741824)) e1
  have e3 := heap_setCell_same _ _ 6 _ _ (.string t) e2
  refine h.turnR (by unfold fuseR; rw [setCell_size, setCell_size, setCell_size]; exact Nat.le_refl _) (fun k _ hk => by unfold fuseR; rw [heap_setCell_other _ _ _ _ hk, heap_setCell_other _ _ _ _ hk, heap_setCell_other _ _ _ _ hk]) ?_ rfl rfl rfl (fun k u e => ?_)
  · unfold fuseR
    rw [e3]
    unfold chipR setFuse
    by_cases h0 : 0 ≤ n
    · rw [if_pos h0, decide_eq_true h0]; rfl
    · rw [if_neg h0, decide_eq_false h0]; rfl
  · unfold setFuse at e
    simp only at e
    by_cases h0 : 0 ≤ n
    · rw [if_pos h0] at e
      simp only [Option.some.injEq, Prod.mk.injEq] at e
      obtain ⟨rfl, rfl⟩ := e
      exact ⟨by omega, rfl⟩
    · rw [if_neg h0] at e
      cases e
theorem RO.fits (h : RO own w m r rb cap cs pg fu tx) {k : Nat} (hk : k < m.n) : k * 5 + 5 ≤ cs.size := by
  obtain ⟨u, hu, _⟩ := (h.bs k hk).t
  have := (Array.getElem?_eq_some_iff.1 hu).1
  omega
theorem RO.turnB (h : RO own w m r rb cap cs pg fu tx) {k : Nat} (hk : k < m.n) {x : Blk} {cs' : Array Value} {g : Nat} (hs : w.heap.size ≤ w'.heap.size) (hkk : ∀ j, own j → j ≠ rb → j ≠ g → w'.heap[j]? = w.heap[j]?)
    (hb : w'.heap[rb]? = some (.cells cs' 73 (0, 0))) (hx : RB w' cs' (k * 5) x m.pages g) (ho : ∀ i, (i < k * 5 ∨ k * 5 + 5 ≤ i) → cs'[i]? = cs[i]?)
    (og : own g) (g1 : g ≠ r) (g2 : g ≠ rb) (gi : ∀ b, b < m.n → b ≠ k → pg b ≠ g) : RO own w' (setB m k x) r rb cap cs' (fun b => if b = k then g else pg b) fu tx := by
  refine { oc := h.oc, ob := h.ob, og := fun b hb2 => ?_, lt := fun k ho => Nat.lt_of_lt_of_le (h.lt k ho) hs, ne := h.ne, gr := fun b hb2 => ?_, inj := fun b b' h1 h2 e => ?_, hr := (hkk _ h.oc h.ne g1.symm).trans h.hr, hb := hb, bs := fun b hb2 => ?_, f := h.f }
  · show own (if b = k then g else pg b)
    split
    · exact og
    · exact h.og b hb2
  · show (if b = k then g else pg b) ≠ r ∧ (if b = k then g else pg b) ≠ rb
    split
    · exact ⟨g1, g2⟩
    · exact h.gr b hb2
  · by_cases e1 : b = k <;> by_cases e2 : b' = k
    · rw [e1, e2]
    · simp only [e1, e2, if_true, if_false] at e
      exact absurd e.symm (gi b' h2 e2)
    · simp only [e1, e2, if_true, if_false] at e
      exact absurd e (gi b h1 e1)
    · simp only [e1, e2, if_false] at e
      exact h.inj b b' h1 h2 e
  · by_cases e : b = k
    · subst e
      simpa [setB] using hx
    · have hB := h.bs b hb2
      have hi : ∀ i, i < 5 → cs'[b * 5 + i]? = cs[b * 5 + i]? := fun i hi => ho _ (by omega)
      have h0 : cs'[b * 5]? = cs[b * 5]? := hi 0 (by omega)
      obtain ⟨u, hu, hu2⟩ := hB.t
      obtain ⟨ps, h1, h2⟩ := hB.p
      simp only [setB, e, if_false]
      exact ⟨by rw [h0]; exact hB.s, by rw [hi _ (by omega)]; exact hB.wo, by rw [hi _ (by omega)]; exact hB.b, by rw [hi _ (by omega)]; exact hB.f, ⟨u, by rw [hi _ (by omega)]; exact hu, hu2⟩,
        ⟨ps, (hkk _ (h.og b hb2) (h.gr b hb2).2 (gi b hb2 e)).trans h1, h2⟩⟩
/-- A page is put: the page row's cells. -/
def putR (w : World) (g p : Nat) (s : ByteArray) : World := (w.setCell ⟨g, p * 2, none⟩ (.bool true)).setCell ⟨g, p * 2 + 1, none⟩ (.string s)
theorem RO.put (h : RO own w m r rb cap cs pg fu tx) {k : Nat} (hk : k < m.n) (hp : (m.blk k).text.length < m.pages) (s : ByteArray) :
    RO own (putR w (pg k) (m.blk k).text.length s) (setB m k { m.blk k with text := (m.blk k).text ++ [s] }) r rb cap cs pg fu tx := by
  have hB := h.bs k hk
  obtain ⟨ps, h1, h2⟩ := hB.p
  have hz : (m.blk k).text.length * 2 + 2 ≤ ps.size := by
    obtain ⟨_, u, hu, _⟩ := h2 _ hp
    have := (Array.getElem?_eq_some_iff.1 hu).1
    omega
  have e1 := heap_setCell_same _ _ ((m.blk k).text.length * 2) _ _ (.bool true) h1
  have hrow := heap_setCell_same _ _ ((m.blk k).text.length * 2 + 1) _ _ (.string s) e1
  have hg : ∀ j, ((ps.setIfInBounds ((m.blk k).text.length * 2) (.bool true)).setIfInBounds ((m.blk k).text.length * 2 + 1) (.string s))[j]? = if (m.blk k).text.length * 2 + 1 = j then some (.string s) else if (m.blk k).text.length * 2 = j then some (.bool true) else ps[j]? := fun j => by
    rw [get_set (by rw [Array.size_setIfInBounds]; omega), get_set (by omega)]
  have := h.turnB (w' := putR w (pg k) (m.blk k).text.length s) (x := { m.blk k with text := (m.blk k).text ++ [s] }) (cs' := cs) (g := pg k) hk (by unfold putR; rw [setCell_size, setCell_size]; exact Nat.le_refl _)
    (fun j _ _ hj => by unfold putR; rw [heap_setCell_other _ _ _ _ hj, heap_setCell_other _ _ _ _ hj]) (by unfold putR; rw [heap_setCell_other _ _ _ _ (h.gr k hk).2.symm, heap_setCell_other _ _ _ _ (h.gr k hk).2.symm]; exact h.hb)
    ⟨hB.s, hB.wo, hB.b, hB.f, hB.t, _, hrow, fun p hpp => ?_⟩ (fun _ _ => rfl) (h.og k hk) (h.gr k hk).1 (h.gr k hk).2 (fun b hb2 hne e => hne (h.inj b k hb2 hk e))
  · have e : (fun b => if b = k then pg k else pg b) = pg := by
      funext b
      by_cases e : b = k
      · rw [if_pos e, e]
      · rw [if_neg e]
    rwa [e] at this
  · obtain ⟨a1, u, a2, a3⟩ := h2 p hpp
    simp only [List.length_append, List.length_singleton]
    rw [hg, hg]
    by_cases e : p = (m.blk k).text.length
    · subst e
      rw [if_neg (by omega), if_pos rfl, if_pos rfl]
      exact ⟨by rw [decide_eq_true (by omega)], s, rfl, fun _ => by simp⟩
    · rw [if_neg (by omega), if_neg (by omega), if_neg (by omega), if_neg (by omega), a1]
      refine ⟨?_, u, a2, fun hl => ?_⟩
      · congr 2
        rw [decide_eq_decide]
        omega
      · rw [a3 (by omega)]
        simp [List.getD_eq_getElem?_getD, List.getElem?_append_left (show p < (m.blk k).text.length by omega)]
theorem RO.pcell (h : RO own w m r rb cap cs pg fu tx) {k : Nat} (hk : k < m.n) {p : Nat} (hp : p < m.pages) : (∃ v, w.cell? ⟨pg k, p * 2, none⟩ = some v) ∧ (∃ v, w.cell? ⟨pg k, p * 2 + 1, none⟩ = some v) ∧ ∀ o, w.frozen? ⟨pg k, o, none⟩ = false := by
  obtain ⟨ps, h1, h2⟩ := (h.bs k hk).p
  obtain ⟨a1, u, a2, _⟩ := h2 p hp
  exact ⟨⟨_, by rw [cell_of_row _ _ _ _ _ _ h1]; exact a1⟩, ⟨_, by rw [cell_of_row _ _ _ _ _ _ h1]; exact a2⟩, fun o => frozen_of_row _ _ _ _ _ h1⟩
def fellR (w : World) (rb k : Nat) : World := (w.setCell ⟨rb, k * 5 + 2, none⟩ (.bool true)).setCell ⟨rb, k * 5 + 3, none⟩ (.bool false)
def failR (w : World) (rb k : Nat) (t : ByteArray) : World := (w.setCell ⟨rb, k * 5 + 3, none⟩ (.bool true)).setCell ⟨rb, k * 5 + 4, none⟩ (.string t)
theorem pg_self (k : Nat) (pg : Nat → Nat) : (fun b => if b = k then pg k else pg b) = pg := by
  funext b
  by_cases e : b = k
  · rw [if_pos e, e]
  · rw [if_neg e]
theorem RO.two (h : RO own w m r rb cap cs pg fu tx) {k : Nat} (hk : k < m.n) {i j : Nat} (hi : i < 5) (hj : j < 5) (u v : Value) {x : Blk} (hx : ∀ c : Array Value, (∀ q, c[q]? = if k * 5 + j = q then some v else if k * 5 + i = q then some u else cs[q]?) →
      c[k * 5]? = some (.slice (some ⟨pg k, 0, none⟩) m.pages m.pages) ∧ c[k * 5 + 1]? = some (.int .i64 x.worn) ∧ c[k * 5 + 2]? = some (.bool x.bad) ∧ c[k * 5 + 3]? = some (.bool x.fails.isSome) ∧ ∃ u, c[k * 5 + 4]? = some (.string u) ∧ ∀ v, x.fails = some v → u = v) (ht : x.text = (m.blk k).text) :
    ∃ cs', RO own ((w.setCell ⟨rb, k * 5 + i, none⟩ u).setCell ⟨rb, k * 5 + j, none⟩ v) (setB m k x) r rb cap cs' pg fu tx := by
  have hf := h.fits hk
  have hB := h.bs k hk
  have e1 := heap_setCell_same _ _ (k * 5 + i) _ _ u h.hb
  have e2 := heap_setCell_same _ _ (k * 5 + j) _ _ v e1
  have hg : ∀ q, ((cs.setIfInBounds (k * 5 + i) u).setIfInBounds (k * 5 + j) v)[q]? = if k * 5 + j = q then some v else if k * 5 + i = q then some u else cs[q]? := fun q => by
    rw [get_set (by rw [Array.size_setIfInBounds]; omega), get_set (by omega)]
  obtain ⟨x0, x1, x2, x3, x4⟩ := hx _ hg
  obtain ⟨ps, h1, h2⟩ := hB.p
  have := h.turnB (w' := (w.setCell ⟨rb, k * 5 + i, none⟩ u).setCell ⟨rb, k * 5 + j, none⟩ v) (x := x) (g := pg k) hk (by rw [setCell_size, setCell_size]; exact Nat.le_refl _)
    (fun q _ hq _ => by rw [heap_setCell_other _ _ _ _ hq, heap_setCell_other _ _ _ _ hq]) e2
    ⟨x0, x1, x2, x3, x4, ps, by rw [heap_setCell_other _ _ _ _ (h.gr k hk).2, heap_setCell_other _ _ _ _ (h.gr k hk).2]; exact h1, by rw [ht]; exact h2⟩ (fun q hq => by rw [hg, if_neg (by omega), if_neg (by omega)]) (h.og k hk) (h.gr k hk).1 (h.gr k hk).2 (fun b hb2 hne e => hne (h.inj b k hb2 hk e))
  rw [pg_self] at this
  exact ⟨_, this⟩
theorem RO.fell (h : RO own w m r rb cap cs pg fu tx) {k : Nat} (hk : k < m.n) : ∃ cs', RO own (fellR w rb k) (fell m k) r rb cap cs' pg fu tx := by
  have hB := h.bs k hk
  obtain ⟨u, hu, _⟩ := hB.t
  exact h.two hk (i := 2) (j := 3) (by omega) (by omega) _ _ (x := { m.blk k with bad := true, fails := none }) (fun c hc => ⟨by rw [hc, if_neg (by omega), if_neg (by omega)]; exact hB.s, by rw [hc, if_neg (by omega), if_neg (by omega)]; exact hB.wo, by rw [hc, if_neg (by omega), if_pos rfl],
    by rw [hc, if_pos rfl]; rfl, u, by rw [hc, if_neg (by omega), if_neg (by omega)]; exact hu, fun v e => by cases e⟩) rfl
theorem RO.fail (h : RO own w m r rb cap cs pg fu tx) {k : Nat} (hk : k < m.n) (t : ByteArray) : ∃ cs', RO own (failR w rb k t) (setB m k { m.blk k with fails := some t }) r rb cap cs' pg fu tx := by
  have hB := h.bs k hk
  exact h.two hk (i := 3) (j := 4) (by omega) (by omega) _ _ (x := { m.blk k with fails := some t }) (fun c hc => ⟨by rw [hc, if_neg (by omega), if_neg (by omega)]; exact hB.s, by rw [hc, if_neg (by omega), if_neg (by omega)]; exact hB.wo, by rw [hc, if_neg (by omega), if_neg (by omega)]; exact hB.b,
    by rw [hc, if_neg (by omega), if_pos rfl]; rfl, t, by rw [hc, if_pos rfl], fun v e => Option.some.inj e⟩) rfl
/-! ### A block that is blank again: its pages lie elsewhere -/
def zp : Array Value := #[.bool false, .string ⟨#[]⟩]
def pageN (n : Nat) : Array Value := madeCells zp (n * 2)
theorem infoP : (Try.prog.info? 76).map (fun i => (i.zero, i.size, i.bytes)) = some (some (.agg zp), 2, 24) := by kernel_rfl
theorem madeP (n : Nat) (h : n ≤ 32) (W : World) : (Instr.makeSlice 71 (.int .i64 (n : Int)) (.int .i64 (n : Int))).run Try.prog W = .ok (.slice (some ⟨W.heap.size, 0, none⟩) n n) (W.alloc (.cells (pageN n) 76)) := by
  obtain ⟨i, hi, hz0, hz1, hz2⟩ := info_parts infoP
  have := run_make (P := Try.prog) W 71 76 i (.agg zp) Try.underlying71 hi hz0 .i64 .i64 n n (by omega) (by omega) (by rw [hz2]; omega) (by omega)
  rw [this, hz1]
  rfl
theorem pageN_get (n p q : Nat) (hp : p < n) (hq : q < 2) : (pageN n)[p * 2 + q]? = zp[q]? := by
  have hz : zp[q]? = some zp[q]! := by rw [getElem!_pos zp q hq]; exact Array.getElem?_eq_getElem _
  unfold pageN madeCells
  have hlt : p * 2 + q < n * 2 := by omega
  rw [Array.getElem?_map, Array.getElem?_range, if_pos hlt, hz, show zp.size = 2 from rfl]
  simp only [Option.map_some]
  rw [show (p * 2 + q) % 2 = q by omega]
theorem RO.wider {own2 : Nat → Prop} (h : RO own w m r rb cap cs pg fu tx) (hs : ∀ k, own k → own2 k) (hl : ∀ k, own2 k → k < w.heap.size) : RO own2 w m r rb cap cs pg fu tx :=
  { oc := hs _ h.oc, ob := hs _ h.ob, og := fun b hb => hs _ (h.og b hb), lt := hl, ne := h.ne, gr := h.gr, inj := h.inj, hr := h.hr, hb := h.hb, bs := h.bs, f := h.f }
theorem RO.alloc (h : RO own w m r rb cap cs pg fu tx) (o : Obj) : RO own (w.alloc o) m r rb cap cs pg fu tx :=
  h.same (by simp) fun k ho => Below.heap_alloc _ _ _ (h.lt k ho)
theorem RO.grow (h : RO own w m r rb cap cs pg fu tx) (o : Obj) : RO (more own w) (w.alloc o) m r rb cap cs pg fu tx :=
  (h.alloc o).wider (fun _ hk => Or.inl hk) fun k hk => by
    rcases hk with hk | rfl
    · have := h.lt k hk; simp; omega
    · simp
def blankR (w : World) (rb k pages n : Nat) : World := ((w.alloc (.cells (pageN pages) 76)).setCell ⟨rb, k * 5, none⟩ (.slice (some ⟨w.heap.size, 0, none⟩) pages pages)).setCell ⟨rb, k * 5 + 1, none⟩ (.int .i64 ((n + 1 : Nat) : Int))
theorem RO.blank (h : RO own w m r rb cap cs pg fu tx) {k : Nat} (hk : k < m.n) :
    ∃ cs' pg', RO (more own w) (blankR w rb k m.pages (m.blk k).worn) (ChipM.blank m k) r rb cap cs' pg' fu tx := by
  have hg := h.grow (.cells (pageN m.pages) 76)
  have hf := h.fits hk
  have hB := h.bs k hk
  have hr := h.lt _ h.oc
  have hrb := h.lt _ h.ob
  have e1 := heap_setCell_same _ _ (k * 5) _ _ (.slice (some ⟨w.heap.size, 0, none⟩) m.pages m.pages) hg.hb
  have e2 := heap_setCell_same _ _ (k * 5 + 1) _ _ (.int .i64 (((m.blk k).worn + 1 : Nat) : Int)) e1
  have hgt : ∀ q, ((cs.setIfInBounds (k * 5) (.slice (some ⟨w.heap.size, 0, none⟩) m.pages m.pages)).setIfInBounds (k * 5 + 1) (.int .i64 (((m.blk k).worn + 1 : Nat) : Int)))[q]? = if k * 5 + 1 = q then some (.int .i64 (((m.blk k).worn + 1 : Nat) : Int)) else if k * 5 = q then some (.slice (some ⟨w.heap.size, 0, none⟩) m.pages m.pages) else cs[q]? := fun q => by
    rw [get_set (by rw [Array.size_setIfInBounds]; omega), get_set (by omega)]
  obtain ⟨u, hu, hu2⟩ := hB.t
  refine ⟨_, _, hg.turnB (w' := blankR w rb k m.pages (m.blk k).worn) (x := { m.blk k with text := [], worn := (m.blk k).worn + 1 }) (g := w.heap.size) hk (by unfold blankR; rw [setCell_size, setCell_size]; exact Nat.le_refl _)
    (fun q _ hq _ => by unfold blankR; rw [heap_setCell_other _ _ _ _ hq, heap_setCell_other _ _ _ _ hq]) e2
    ⟨by rw [hgt, if_neg (by omega), if_pos rfl], by rw [hgt, if_pos rfl], by rw [hgt, if_neg (by omega), if_neg (by omega)]; exact hB.b, by rw [hgt, if_neg (by omega), if_neg (by omega)]; exact hB.f, ⟨u, by rw [hgt, if_neg (by omega), if_neg (by omega)]; exact hu, hu2⟩, pageN m.pages, ?_, fun p hp => ?_⟩
    (fun q hq => by rw [hgt, if_neg (by omega), if_neg (by omega)]) (Or.inr rfl) (by omega) (by omega) (fun b hb2 _ e => ?_)⟩
  · unfold blankR
    rw [heap_setCell_other _ _ _ _ (by show w.heap.size ≠ rb; omega), heap_setCell_other _ _ _ _ (by show w.heap.size ≠ rb; omega)]
    exact heap_alloc_new _ _
  · have g0 := pageN_get m.pages p 0 hp (by omega)
    have g1 := pageN_get m.pages p 1 hp (by omega)
    exact ⟨g0, _, g1, fun hl => by simp at hl⟩
  · have := h.lt _ (h.og b hb2)
    omega
end
end Go.Proofs.Ytfjnjhlmmdeilaa.RefA
