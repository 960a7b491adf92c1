/- What becomes of a chip in memory, store by store. -/
import Derived.Test.YtfjnjhlmmdeilaaChipA
set_option linter.unusedVariables false
namespace Go.Proofs.Ytfjnjhlmmdeilaa.ChipA
open Go.RowKit Go.Proofs.Ytfjnjhlmmdeilaa.ChipM

/-- But for the blocks of 'own', all that was there is as it was. -/
structure Foot (own : Nat → Prop) (w w' : World) : Prop where
  os : w'.os = w.os
  tape : w'.tape = w.tape
  output : w'.output = w.output
  size : w.heap.size ≤ w'.heap.size
  block : ∀ k, k < w.heap.size → ¬ own k → w'.heap[k]? = w.heap[k]?
theorem Foot.refl (own : Nat → Prop) (w : World) : Foot own w w := ⟨rfl, rfl, rfl, Nat.le_refl _, fun _ _ _ => rfl⟩
theorem Foot.trans {own : Nat → Prop} {a b c : World} (h : Foot own a b) (k : Foot own b c) : Foot own a c :=
  ⟨k.os.trans h.os, k.tape.trans h.tape, k.output.trans h.output, Nat.le_trans h.size k.size, fun i hi ho => (k.block i (Nat.lt_of_lt_of_le hi h.size) ho).trans (h.block i hi ho)⟩
theorem Foot.of_below {own : Nat → Prop} {w w' : World} (h : Below w.heap.size w w') : Foot own w w' := ⟨h.os, h.tape, h.output, h.size, fun k hk _ => h.block k hk⟩
theorem Foot.alloc (own : Nat → Prop) (w : World) (o : Obj) : Foot own w (w.alloc o) := Foot.of_below ((Below.refl _ _).alloc (Nat.le_refl _) o)
theorem Foot.drewN (own : Nat → Prop) (w : World) (n : Nat) : Foot own w (w.drewN n) := ⟨rfl, rfl, rfl, Nat.le_refl _, fun _ _ _ => rfl⟩
theorem Foot.drew (own : Nat → Prop) (w : World) : Foot own w w.drew := ⟨rfl, rfl, rfl, Nat.le_refl _, fun _ _ _ => rfl⟩
theorem Foot.setCell {own : Nat → Prop} (w : World) (a : Addr) (v : Value) (h : own a.block) : Foot own w (w.setCell a v) :=
  ⟨rfl, rfl, rfl, by simp [World.setCell], fun k _ ho => heap_setCell_other _ _ _ _ (fun e => ho (e ▸ h))⟩
theorem Foot.wider {own own2 : Nat → Prop} {w w' : World} (h : Foot own w w') (hs : ∀ k, k < w.heap.size → own k → own2 k) : Foot own2 w w' :=
  ⟨h.os, h.tape, h.output, h.size, fun k hk ho => h.block k hk (fun x => ho (hs k hk x))⟩
/-- Where nothing of what is owned was there: below, all is as it was. -/
theorem Foot.below {own : Nat → Prop} {w w' : World} {B : Nat} (h : Foot own w w') (hB : B ≤ w.heap.size) (ho : ∀ k, own k → B ≤ k) : Below B w w' :=
  ⟨h.os, h.tape, h.output, h.size, fun k hk => h.block k (by omega) (fun x => by have := ho k x; omega)⟩

section
variable {own : Nat → Prop} {w w' : World} {m : Chp} {c bb : Nat} {cs : Array Value} {fz : Option Nat} {fl : Nat → Option Nat}
theorem Own.same (h : Own own w m c bb cs fz fl) (hs : w.heap.size ≤ w'.heap.size) (hk : ∀ k, own k → w'.heap[k]? = w.heap[k]?) : Own own w' m c bb cs fz fl :=
  { oc := h.oc, ob := h.ob, lt := fun k ho => Nat.lt_of_lt_of_le (h.lt k ho) hs, ne := h.ne
    hc := (hk _ h.oc).trans h.hc, hb := (hk _ h.ob).trans h.hb, bs := h.bs, f0 := h.f0
    f1 := fun z hz => by
      obtain ⟨o, n1, n2, n, t, e, hh⟩ := h.f1 z hz
      exact ⟨o, n1, n2, n, t, e, (hk _ o).trans hh⟩
    l0 := h.l0
    l1 := fun b hb z hz => by
      obtain ⟨o, n1, n2, n3, t, e, hh⟩ := h.l1 b hb z hz
      exact ⟨o, n1, n2, n3, t, e, (hk _ o).trans hh⟩ }
theorem Own.keep {own2 : Nat → Prop} (h : Own own w m c bb cs fz fl) (hf : Foot own2 w w') (hd : ∀ k, own k → ¬ own2 k) : Own own w' m c bb cs fz fl :=
  h.same hf.size fun k ho => hf.block k (h.lt k ho) (hd k ho)
theorem Own.alloc (h : Own own w m c bb cs fz fl) (o : Obj) : Own own (w.alloc o) m c bb cs fz fl :=
  h.same (by simp) fun k ho => Below.heap_alloc _ _ _ (h.lt k ho)
theorem Own.drewN (h : Own own w m c bb cs fz fl) (n : Nat) : Own own (w.drewN n) m c bb cs fz fl := h.same (Nat.le_refl _) fun _ _ => rfl
theorem Own.drew (h : Own own w m c bb cs fz fl) : Own own w.drew m c bb cs fz fl := h.same (Nat.le_refl _) fun _ _ => rfl
/-- A store into a block that is none of the chip's. -/
theorem Own.other (h : Own own w m c bb cs fz fl) (a : Addr) (v : Value) (ha : ¬ own a.block) : Own own (w.setCell a v) m c bb cs fz fl :=
  h.same (by simp [World.setCell]) fun k ho => heap_setCell_other _ _ _ _ (fun e => ha (e ▸ ho))
theorem setCell_size (w : World) (a : Addr) (v : Value) : (w.setCell a v).heap.size = w.heap.size := by simp [World.setCell]
/-- The chip's own cells are turned. -/
theorem Own.turnC (h : Own own w m c bb cs fz fl) {m' : Chp} {fz' : Option Nat} (hs : w.heap.size ≤ w'.heap.size) (hk : ∀ k, own k → k ≠ c → w'.heap[k]? = w.heap[k]?)
    (hc : w'.heap[c]? = some (.cells (chipCells m' bb fz') 56 (0, 0))) (hn : m'.n = m.n) (hb : m'.blk = m.blk)
    (f : fz' = none ∧ m'.fuse = none ∨ fz' = fz ∧ m'.fuse = m.fuse ∨ ∃ z n t, fz' = some z ∧ m'.fuse = some (n, t) ∧ own z ∧ z ≠ c ∧ z ≠ bb ∧ (∀ b, b < m.n → fl b ≠ some z) ∧ w'.heap[z]? = some (.cells #[.int .i64 (n : Int), .string t] 67 (0, 0))) : Own own w' m' c bb cs fz' fl :=
  { oc := h.oc, ob := h.ob, lt := fun k ho => Nat.lt_of_lt_of_le (h.lt k ho) hs, ne := h.ne
    hc := hc, hb := (hk _ h.ob h.ne.symm).trans h.hb, bs := by rw [hn, hb]; exact h.bs
    f0 := by
      rcases f with ⟨rfl, e⟩ | ⟨rfl, e⟩ | ⟨z, n, t, rfl, e, _⟩
      · simp [e]
      · rw [e]; exact h.f0
      · simp [e]
    f1 := fun z hz => by
      rcases f with ⟨rfl, e⟩ | ⟨rfl, e⟩ | ⟨y, n, t, rfl, e, o, n1, n2, _, hh⟩
      · cases hz
      · obtain ⟨o, n1, n2, n, t, e2, hh⟩ := h.f1 z hz
        exact ⟨o, n1, n2, n, t, e.trans e2, (hk _ o n1).trans hh⟩
      · obtain rfl := Option.some.inj hz
        exact ⟨o, n1, n2, n, t, e, hh⟩
    l0 := by rw [hn, hb]; exact h.l0
    l1 := fun b hb2 z hz => by
      rw [hn] at hb2
      obtain ⟨o, n1, n2, n3, t, e, hh⟩ := h.l1 b hb2 z hz
      refine ⟨o, n1, n2, ?_, t, by rw [hb]; exact e, (hk _ o n1).trans hh⟩
      rcases f with ⟨rfl, _⟩ | ⟨rfl, _⟩ | ⟨y, _, _, rfl, _, _, _, _, hne, _⟩
      · simp
      · exact n3
      · intro e2
        obtain rfl := Option.some.inj e2
        exact hne b hb2 hz }
theorem Own.dead (h : Own own w m c bb cs fz fl) (d : Bool) : Own own (w.setCell ⟨c, 3, none⟩ (.bool d)) { m with dead := d } c bb cs fz fl :=
  h.turnC (by rw [setCell_size]; exact Nat.le_refl _) (fun k _ hk => heap_setCell_other _ _ _ _ hk) (by rw [heap_setCell_same _ _ _ _ _ _ h.hc]; rfl) rfl rfl (Or.inr (Or.inl ⟨rfl, rfl⟩))
theorem Own.unfuse (h : Own own w m c bb cs fz fl) : Own own (w.setCell ⟨c, 4, none⟩ (.pointer none)) { m with fuse := none } c bb cs none fl :=
  h.turnC (by rw [setCell_size]; exact Nat.le_refl _) (fun k _ hk => heap_setCell_other _ _ _ _ hk) (by rw [heap_setCell_same _ _ _ _ _ _ h.hc]; rfl) rfl rfl (Or.inl ⟨rfl, rfl⟩)
theorem Own.burn (h : Own own w m c bb cs fz fl) {z : Nat} (hz : fz = some z) {n : Nat} {t : ByteArray} (hf : m.fuse = some (n + 1, t)) : Own own (w.setCell ⟨z, 0, none⟩ (.int .i64 (n : Int))) (burn m) c bb cs fz fl := by
  obtain ⟨o, n1, n2, n', t', e2, hh⟩ := h.f1 z hz
  rw [hf] at e2
  simp only [Option.some.injEq, Prod.mk.injEq] at e2
  obtain ⟨rfl, rfl⟩ := e2
  refine { oc := h.oc, ob := h.ob, lt := fun k ho => by rw [setCell_size]; exact h.lt k ho, ne := h.ne, hc := ?_, hb := ?_, bs := h.bs, f0 := ?_, f1 := fun z' hz' => ?_, l0 := h.l0, l1 := fun b hb z' hz' => ?_ }
  · rw [heap_setCell_other _ _ _ _ n1.symm]; exact h.hc
  · rw [heap_setCell_other _ _ _ _ n2.symm]; exact h.hb
  · rw [h.f0, hf]; simp [ChipM.burn, hf]
  · obtain rfl : z' = z := by rw [hz] at hz'; exact (Option.some.inj hz').symm
    refine ⟨o, n1, n2, n, t, by simp [ChipM.burn, hf], ?_⟩
    rw [heap_setCell_same _ _ _ _ _ _ hh]
    rfl
  · obtain ⟨o', m1, m2, m3, t', e, hh'⟩ := h.l1 b hb z' hz'
    refine ⟨o', m1, m2, m3, t', e, ?_⟩
    rw [heap_setCell_other _ _ _ _ (fun e => m3 (by rw [hz]; exact congrArg some e.symm))]
    exact hh'
/-- The blocks' cells are turned: one block's alone. -/
theorem Own.turnB (h : Own own w m c bb cs fz fl) {k : Nat} (hk : k < m.n) {x : Blk} {cs' : Array Value} {g : Option Nat} (hs : w.heap.size ≤ w'.heap.size) (hkk : ∀ k, own k → k ≠ bb → w'.heap[k]? = w.heap[k]?)
    (hb : w'.heap[bb]? = some (.cells cs' 62 (0, 0))) (hx : BlkAt cs' (k * 36) x g) (ho : ∀ i, (i < k * 36 ∨ k * 36 + 36 ≤ i) → cs'[i]? = cs[i]?)
    (hg : g = none ∧ x.fails = none ∨ g = fl k ∧ x.fails = (m.blk k).fails ∨ ∃ z t, g = some z ∧ x.fails = some t ∧ own z ∧ z ≠ c ∧ z ≠ bb ∧ fz ≠ some z ∧ w'.heap[z]? = some (.cells #[.string t] 9 (0, 0))) : Own own w' (setB m k x) c bb cs' fz (fun b => if b = k then g else fl b) := by
  have ob : ∀ b, b < m.n → b ≠ k → BlkAt cs' (b * 36) (m.blk b) (fl b) := fun b hb2 hne => by
    have hB := h.bs b hb2
    have hi : ∀ i, i < 36 → cs'[b * 36 + i]? = cs[b * 36 + i]? := fun i hi => ho _ (by omega)
    refine ⟨fun q hq => by rw [hi q (by omega)]; exact hB.p q hq, fun q hq => ?_, by rw [hi _ (by omega)]; exact hB.n, by rw [hi _ (by omega)]; exact hB.w, by rw [hi _ (by omega)]; exact hB.b, by rw [hi _ (by omega)]; exact hB.f⟩
    by_cases hq2 : q < 36
    · rw [hi q hq2]; exact hB.t q hq
    · exfalso
      have e1 := hB.t 32 (by omega)
      rw [hB.n] at e1
      cases e1
  refine { oc := h.oc, ob := h.ob, lt := fun k ho => Nat.lt_of_lt_of_le (h.lt k ho) hs, ne := h.ne, hc := (hkk _ h.oc h.ne).trans h.hc, hb := hb, bs := fun b hb2 => ?_, f0 := h.f0, f1 := fun z hz => ?_, l0 := fun b hb2 => ?_, l1 := fun b hb2 z hz => ?_ }
  · by_cases e : b = k
    · subst e
      simpa [setB] using hx
    · simpa [setB, e] using ob b hb2 e
  · obtain ⟨o, n1, n2, n, t, e2, hh⟩ := h.f1 z hz
    exact ⟨o, n1, n2, n, t, e2, (hkk _ o n2).trans hh⟩
  · by_cases e : b = k
    · subst e
      rcases hg with ⟨rfl, e2⟩ | ⟨rfl, e2⟩ | ⟨z, t, rfl, e2, _⟩
      · simp [setB, e2]
      · simp [setB, e2, h.l0 b hk]
      · simp [setB, e2]
    · simpa [setB, e] using h.l0 b hb2
  · by_cases e : b = k
    · subst e
      rcases hg with ⟨rfl, e2⟩ | ⟨rfl, e2⟩ | ⟨y, t, rfl, e2, o, n1, n2, n3, hh⟩
      · simp at hz
      · simp only [if_true] at hz
        obtain ⟨o, n1, n2, n3, t, e3, hh⟩ := h.l1 b hk z hz
        exact ⟨o, n1, n2, n3, t, by simp [setB, e2, e3], (hkk _ o n2).trans hh⟩
      · simp only [if_true, Option.some.injEq] at hz
        subst hz
        exact ⟨o, n1, n2, n3, t, by simp [setB, e2], hh⟩
    · simp only [e, if_false] at hz
      obtain ⟨o, n1, n2, n3, t, e3, hh⟩ := h.l1 b hb2 z hz
      exact ⟨o, n1, n2, n3, t, by simp [setB, e, e3], (hkk _ o n2).trans hh⟩
theorem Own.wider {own2 : Nat → Prop} (h : Own own w m c bb cs fz fl) (hs : ∀ k, own k → own2 k) (hl : ∀ k, own2 k → k < w.heap.size) : Own own2 w m c bb cs fz fl :=
  { oc := hs _ h.oc, ob := hs _ h.ob, lt := hl, ne := h.ne, hc := h.hc, hb := h.hb, bs := h.bs, f0 := h.f0
    f1 := fun z hz => by
      obtain ⟨o, r⟩ := h.f1 z hz
      exact ⟨hs _ o, r⟩
    l0 := h.l0
    l1 := fun b hb z hz => by
      obtain ⟨o, r⟩ := h.l1 b hb z hz
      exact ⟨hs _ o, r⟩ }
/-- With the next block, too. -/
def more (own : Nat → Prop) (w : World) (k : Nat) : Prop := own k ∨ k = w.heap.size
theorem Own.grow (h : Own own w m c bb cs fz fl) (o : Obj) : Own (more own w) (w.alloc o) m c bb cs fz fl :=
  (h.alloc o).wider (fun _ hk => Or.inl hk) fun k hk => by
    rcases hk with hk | rfl
    · have := h.lt k hk; simp; omega
    · simp
theorem Own.fuse (h : Own own w m c bb cs fz fl) (n : Nat) (t : ByteArray) :
    Own (more own w) ((w.alloc (.cells #[.int .i64 (n : Int), .string t] 67)).setCell ⟨c, 4, none⟩ (.pointer (some ⟨w.heap.size, 0, none⟩))) { m with fuse := some (n, t) } c bb cs (some w.heap.size) fl := by
  have hg := h.grow (.cells #[.int .i64 (n : Int), .string t] 67)
  have hc := h.lt _ h.oc
  have hb := h.lt _ h.ob
  refine hg.turnC (by rw [setCell_size]; exact Nat.le_refl _) (fun k _ hk => heap_setCell_other _ _ _ _ hk) (by rw [heap_setCell_same _ _ _ _ _ _ hg.hc]; rfl) rfl rfl (Or.inr (Or.inr ⟨_, n, t, rfl, rfl, Or.inr rfl, by omega, by omega, fun b hb2 e => ?_, ?_⟩))
  · have := h.lt _ (h.l1 b hb2 _ e).1
    omega
  · rw [heap_setCell_other _ _ _ _ (by show w.heap.size ≠ c; omega)]
    exact heap_alloc_new _ _
theorem Own.fail (h : Own own w m c bb cs fz fl) {k : Nat} (hk : k < m.n) (t : ByteArray) :
    ∃ cs' fl', Own (more own w) ((w.alloc (.cells #[.string t] 9)).setCell ⟨bb, k * 36 + 35, none⟩ (.pointer (some ⟨w.heap.size, 0, none⟩))) (setB m k { m.blk k with fails := some t }) c bb cs' fz fl' := by
  have hg := h.grow (.cells #[.string t] 9)
  have hc := h.lt _ h.oc
  have hb := h.lt _ h.ob
  have hB := h.bs k hk
  have hf : k * 36 + 36 ≤ cs.size := by
    have := (Array.getElem?_eq_some_iff.1 hB.f).1
    omega
  have hl : (m.blk k).text.length ≤ 32 := by
    by_cases hl : (m.blk k).text.length ≤ 32
    · exact hl
    · exfalso
      have e1 := hB.t 32 (by omega)
      rw [hB.n] at e1
      cases e1
  have hgt : ∀ j, (cs.setIfInBounds (k * 36 + 35) (.pointer (some ⟨w.heap.size, 0, none⟩)))[j]? = if k * 36 + 35 = j then some (.pointer (some ⟨w.heap.size, 0, none⟩)) else cs[j]? := fun j => by
    rw [Array.getElem?_setIfInBounds]
    by_cases e : k * 36 + 35 = j
    · rw [if_pos e, if_pos (by omega), if_pos e]
    · rw [if_neg e, if_neg e]
  refine ⟨_, _, hg.turnB (x := { m.blk k with fails := some t }) (g := some w.heap.size) hk (by rw [setCell_size]; exact Nat.le_refl _) (fun j _ hj => heap_setCell_other _ _ _ _ hj) (heap_setCell_same _ _ _ _ _ _ hg.hb)
    ⟨fun q hq => ?_, fun q hq => ?_, ?_, ?_, ?_, ?_⟩ (fun i hi => by rw [hgt, if_neg (by omega)]) (Or.inr (Or.inr ⟨_, t, rfl, rfl, Or.inr rfl, by omega, by omega, fun e => ?_, ?_⟩))⟩
  · rw [hgt, if_neg (by omega)]; exact hB.p q hq
  · simp only at hq
    rw [hgt, if_neg (by omega)]; exact hB.t q hq
  · rw [hgt, if_neg (by omega)]; exact hB.n
  · rw [hgt, if_neg (by omega)]; exact hB.w
  · rw [hgt, if_neg (by omega)]; exact hB.b
  · rw [hgt, if_pos rfl]; rfl
  · have := h.lt _ (h.f1 _ e).1
    omega
  · rw [heap_setCell_other _ _ _ _ (by show w.heap.size ≠ bb; omega)]
    exact heap_alloc_new _ _
/-! ### Single deeds on a block's cells -/
theorem get_set {cs : Array Value} {i : Nat} (hi : i < cs.size) (v : Value) (j : Nat) : (cs.setIfInBounds i v)[j]? = if i = j then some v else cs[j]? := by
  rw [Array.getElem?_setIfInBounds]
  by_cases e : i = j
  · rw [if_pos e, if_pos hi, if_pos e]
  · rw [if_neg e, if_neg e]
theorem Own.fits (h : Own own w m c bb cs fz fl) {k : Nat} (hk : k < m.n) : k * 36 + 36 ≤ cs.size := by
  have := (Array.getElem?_eq_some_iff.1 (h.bs k hk).f).1
  omega
theorem upd_self (k : Nat) (fl : Nat → Option Nat) : (fun b => if b = k then fl k else fl b) = fl := by
  funext b
  by_cases e : b = k
  · rw [if_pos e, e]
  · rw [if_neg e]
def putW (w : World) (bb k p : Nat) (s : ByteArray) : World := (w.setCell ⟨bb, k * 36 + p, none⟩ (.string s)).setCell ⟨bb, k * 36 + 32, none⟩ (.int .i64 ((p + 1 : Nat) : Int))
theorem Own.put (h : Own own w m c bb cs fz fl) {k : Nat} (hk : k < m.n) (hp : (m.blk k).text.length < 32) (s : ByteArray) :
    ∃ cs', Own own (putW w bb k (m.blk k).text.length s) (setB m k { m.blk k with text := (m.blk k).text ++ [s] }) c bb cs' fz fl := by
  have hf := h.fits hk
  have hB := h.bs k hk
  have e1 := heap_setCell_same _ _ (k * 36 + (m.blk k).text.length) _ _ (.string s) h.hb
  have e2 := heap_setCell_same _ _ (k * 36 + 32) _ _ (.int .i64 (((m.blk k).text.length + 1 : Nat) : Int)) e1
  have hg : ∀ j, ((cs.setIfInBounds (k * 36 + (m.blk k).text.length) (.string s)).setIfInBounds (k * 36 + 32) (.int .i64 (((m.blk k).text.length + 1 : Nat) : Int)))[j]? = if k * 36 + 32 = j then some (.int .i64 (((m.blk k).text.length + 1 : Nat) : Int)) else if k * 36 + (m.blk k).text.length = j then some (.string s) else cs[j]? := fun j => by
    rw [get_set (by rw [Array.size_setIfInBounds]; omega), get_set (by omega)]
  refine ⟨(cs.setIfInBounds (k * 36 + (m.blk k).text.length) (.string s)).setIfInBounds (k * 36 + 32) (.int .i64 (((m.blk k).text.length + 1 : Nat) : Int)), ?_⟩
  have := h.turnB (w' := putW w bb k (m.blk k).text.length s) (x := { m.blk k with text := (m.blk k).text ++ [s] }) (g := fl k) hk (by unfold putW; rw [setCell_size, setCell_size]; exact Nat.le_refl _)
    (fun j _ hj => by unfold putW; rw [heap_setCell_other _ _ _ _ hj, heap_setCell_other _ _ _ _ hj]) e2
    ⟨fun q hq => ?_, fun q hq => ?_, ?_, ?_, ?_, ?_⟩ (fun i hi => by rw [hg, if_neg (by omega), if_neg (by omega)]) (Or.inr (Or.inl ⟨rfl, rfl⟩))
  · rwa [upd_self] at this
  · rw [hg, if_neg (by omega)]
    by_cases e : q = (m.blk k).text.length
    · rw [if_pos (by omega)]; exact ⟨_, rfl⟩
    · rw [if_neg (by omega)]; exact hB.p q hq
  · simp only [List.length_append, List.length_singleton] at hq
    rw [hg, if_neg (by omega)]
    by_cases e : q = (m.blk k).text.length
    · rw [if_pos (by omega)]; subst e; simp
    · rw [if_neg (by omega), hB.t q (by omega)]
      simp [List.getD_eq_getElem?_getD, List.getElem?_append_left (show q < (m.blk k).text.length by omega)]
  · rw [hg, if_pos rfl]; simp
  · rw [hg, if_neg (by omega), if_neg (by omega)]; exact hB.w
  · rw [hg, if_neg (by omega), if_neg (by omega)]; exact hB.b
  · rw [hg, if_neg (by omega), if_neg (by omega)]; exact hB.f
def fellW (w : World) (bb k : Nat) : World := (w.setCell ⟨bb, k * 36 + 34, none⟩ (.bool true)).setCell ⟨bb, k * 36 + 35, none⟩ (.pointer none)
theorem Own.fell (h : Own own w m c bb cs fz fl) {k : Nat} (hk : k < m.n) : ∃ cs' fl', Own own (fellW w bb k) (fell m k) c bb cs' fz fl' := by
  have hf := h.fits hk
  have hB := h.bs k hk
  have hl : (m.blk k).text.length ≤ 32 := by
    by_cases hl : (m.blk k).text.length ≤ 32
    · exact hl
    · exfalso
      have e1 := hB.t 32 (by omega)
      rw [hB.n] at e1
      cases e1
  have e1 := heap_setCell_same _ _ (k * 36 + 34) _ _ (.bool true) h.hb
  have e2 := heap_setCell_same _ _ (k * 36 + 35) _ _ (.pointer none) e1
  have hg : ∀ j, ((cs.setIfInBounds (k * 36 + 34) (.bool true)).setIfInBounds (k * 36 + 35) (.pointer none))[j]? = if k * 36 + 35 = j then some (.pointer none) else if k * 36 + 34 = j then some (.bool true) else cs[j]? := fun j => by
    rw [get_set (by rw [Array.size_setIfInBounds]; omega), get_set (by omega)]
  refine ⟨_, _, h.turnB (w' := fellW w bb k) (x := { m.blk k with bad := true, fails := none }) (g := none) hk (by unfold fellW; rw [setCell_size, setCell_size]; exact Nat.le_refl _)
    (fun j _ hj => by unfold fellW; rw [heap_setCell_other _ _ _ _ hj, heap_setCell_other _ _ _ _ hj]) e2
    ⟨fun q hq => ?_, fun q hq => ?_, ?_, ?_, ?_, ?_⟩ (fun i hi => by rw [hg, if_neg (by omega), if_neg (by omega)]) (Or.inl ⟨rfl, rfl⟩)⟩
  · rw [hg, if_neg (by omega), if_neg (by omega)]; exact hB.p q hq
  · simp only at hq
    rw [hg, if_neg (by omega), if_neg (by omega)]; exact hB.t q hq
  · rw [hg, if_neg (by omega), if_neg (by omega)]; exact hB.n
  · rw [hg, if_neg (by omega), if_neg (by omega)]; exact hB.w
  · rw [hg, if_neg (by omega), if_pos rfl]
  · rw [hg, if_pos rfl]; rfl
theorem Own.len (h : Own own w m c bb cs fz fl) {k : Nat} (hk : k < m.n) : (m.blk k).text.length ≤ 32 := by
  have hB := h.bs k hk
  by_cases hl : (m.blk k).text.length ≤ 32
  · exact hl
  · exfalso
    have e1 := hB.t 32 (by omega)
    rw [hB.n] at e1
    cases e1
/-- A block's cells, its pages blank. -/
def blankRow (cs : Array Value) (k : Nat) : Array Value := (cs.toList.take (k * 36) ++ List.replicate 32 (Value.string ⟨#[]⟩) ++ cs.toList.drop (k * 36 + 32)).toArray
theorem blankRow_size {cs : Array Value} {k : Nat} (h : k * 36 + 36 ≤ cs.size) : (blankRow cs k).size = cs.size := by
  simp [blankRow]
  omega
theorem blankRow_get {cs : Array Value} {k : Nat} (h : k * 36 + 36 ≤ cs.size) (j : Nat) : (blankRow cs k)[j]? = if k * 36 ≤ j ∧ j < k * 36 + 32 then some (.string ⟨#[]⟩) else cs[j]? := by
  unfold blankRow
  rw [List.getElem?_toArray, List.append_assoc, List.getElem?_append]
  have hl : (cs.toList.take (k * 36)).length = k * 36 := by simp; omega
  rw [hl]
  by_cases h1 : j < k * 36
  · rw [if_pos h1, if_neg (by omega), List.getElem?_take, if_pos h1]
    simp
  · rw [if_neg h1, List.getElem?_append, List.length_replicate]
    by_cases h2 : j - k * 36 < 32
    · rw [if_pos h2, if_pos (by omega), List.getElem?_replicate, if_pos h2]
    · rw [if_neg h2, if_neg (by omega), List.getElem?_drop, show k * 36 + 32 + (j - k * 36 - 32) = j by omega]
      simp
def blankW (w : World) (bb k : Nat) (cs : Array Value) (n : Nat) : World := ((w.setRow bb (blankRow cs k)).setCell ⟨bb, k * 36 + 32, none⟩ (.int .i64 0)).setCell ⟨bb, k * 36 + 33, none⟩ (.int .i64 ((n + 1 : Nat) : Int))
theorem Own.blank (h : Own own w m c bb cs fz fl) {k : Nat} (hk : k < m.n) : ∃ cs', Own own (blankW w bb k cs (m.blk k).worn) (ChipM.blank m k) c bb cs' fz fl := by
  have hf := h.fits hk
  have hB := h.bs k hk
  have e0 := setRow_heap w bb cs (blankRow cs k) _ _ h.hb
  have e1 := heap_setCell_same _ _ (k * 36 + 32) _ _ (.int .i64 0) e0
  have e2 := heap_setCell_same _ _ (k * 36 + 33) _ _ (.int .i64 (((m.blk k).worn + 1 : Nat) : Int)) e1
  have hg : ∀ j, (((blankRow cs k).setIfInBounds (k * 36 + 32) (.int .i64 0)).setIfInBounds (k * 36 + 33) (.int .i64 (((m.blk k).worn + 1 : Nat) : Int)))[j]? = if k * 36 + 33 = j then some (.int .i64 (((m.blk k).worn + 1 : Nat) : Int)) else if k * 36 + 32 = j then some (.int .i64 0) else if k * 36 ≤ j ∧ j < k * 36 + 32 then some (.string ⟨#[]⟩) else cs[j]? := fun j => by
    rw [get_set (by rw [Array.size_setIfInBounds, blankRow_size hf]; omega), get_set (by rw [blankRow_size hf]; omega), blankRow_get hf]
  refine ⟨((blankRow cs k).setIfInBounds (k * 36 + 32) (.int .i64 0)).setIfInBounds (k * 36 + 33) (.int .i64 (((m.blk k).worn + 1 : Nat) : Int)), ?_⟩
  have := h.turnB (w' := blankW w bb k cs (m.blk k).worn) (x := { m.blk k with text := [], worn := (m.blk k).worn + 1 }) (g := fl k) hk (by unfold blankW; rw [setCell_size, setCell_size, size_setRow]; exact Nat.le_refl _)
    (fun j _ hj => by unfold blankW; rw [heap_setCell_other _ _ _ _ hj, heap_setCell_other _ _ _ _ hj, setRow_other _ _ _ _ hj]) e2
    ⟨fun q hq => ?_, fun q hq => ?_, ?_, ?_, ?_, ?_⟩ (fun i hi => by rw [hg, if_neg (by omega), if_neg (by omega), if_neg (by omega)]) (Or.inr (Or.inl ⟨rfl, rfl⟩))
  · rwa [upd_self] at this
  · rw [hg, if_neg (by omega), if_neg (by omega), if_pos (by omega)]; exact ⟨_, rfl⟩
  · simp at hq
  · rw [hg, if_neg (by omega), if_pos rfl]; rfl
  · rw [hg, if_pos rfl]
  · rw [hg, if_neg (by omega), if_neg (by omega), if_neg (by omega)]; exact hB.b
  · rw [hg, if_neg (by omega), if_neg (by omega), if_neg (by omega)]; exact hB.f
end
end Go.Proofs.Ytfjnjhlmmdeilaa.ChipA
