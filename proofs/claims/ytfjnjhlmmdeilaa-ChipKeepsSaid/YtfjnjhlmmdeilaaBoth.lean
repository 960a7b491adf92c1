/- One act on both chips: `both`. -/
import Derived.Test.YtfjnjhlmmdeilaaRefN
import Derived.Test.YtfjnjhlmmdeilaaCalm2
set_option linter.unusedVariables false
namespace Go.Proofs.Ytfjnjhlmmdeilaa.Both
open Go.RowKit Go.Proofs.Ytfjnjhlmmdeilaa.ChipM Go.Proofs.Ytfjnjhlmmdeilaa.ChipA Go.Proofs.Ytfjnjhlmmdeilaa.RefA Go.Proofs.Ytfjnjhlmmdeilaa.ChipC

/-- What an act comes to. -/
def act (m : Chp) (k b p : Int) (s : ByteArray) : Chp :=
  if k = 0 then (doProgram m b p s).2 else if k = 1 then (doErase m b).2 else if k = 2 then fail m b s else if k = 3 then setFuse m p s else if k = 4 then revive m else m
theorem act_ok {m : Chp} {K : Nat} (ok : Ok m K) (k b p : Int) (s : ByteArray) : Ok (act m k b p s) (K + 1) := by
  unfold act
  split
  · exact (ok.program b p s).mono (by omega)
  · split
    · exact ok.erase b
    · split
      · exact (ok.fail b s).mono (by omega)
      · split
        · exact (ok.fuse p s).mono (by omega)
        · split
          · exact ok.revive.mono (by omega)
          · exact ok.mono (by omega)
/-- A chip and the document's, side by side; what was had at the start, but for them, is as it was. -/
structure Two (oc or : Nat → Prop) (w : World) (c r : Nat) (m1 m2 : Chp) (oc' or' : Nat → Prop) (W : World) : Prop where
  a : ChipAt oc' W c m1
  b : RefAt or' W r m2
  dis : ∀ k, oc' k → ¬ or' k
  nc : ∀ k, oc' k → oc k ∨ w.heap.size ≤ k
  nr : ∀ k, or' k → or k ∨ w.heap.size ≤ k
  foot : Foot (fun k => oc k ∨ or k) w W
section
variable {oc or oc' or' o2 : Nat → Prop} {w W W' : World} {c r : Nat} {m1 m2 m : Chp}
theorem Foot.thenNew {X Y : Nat → Prop} (h : Foot X w W) (k : Foot Y W W') (hY : ∀ i, i < w.heap.size → Y i → X i) : Foot X w W' :=
  ⟨k.os.trans h.os, k.tape.trans h.tape, k.output.trans h.output, Nat.le_trans h.size k.size, fun i hi ho => (k.block i (Nat.lt_of_lt_of_le hi h.size) fun y => ho (hY i hi y)).trans (h.block i hi ho)⟩
theorem Two.first (h1 : ChipAt oc w c m1) (h2 : RefAt or w r m2) (hd : ∀ k, oc k → ¬ or k) : Two oc or w c r m1 m2 oc or w := ⟨h1, h2, hd, fun _ h => Or.inl h, fun _ h => Or.inl h, Foot.refl _ _⟩
theorem Two.chip (h : Two oc or w c r m1 m2 oc' or' W) (ha : ChipAt o2 W' c m) (ho : ∀ k, o2 k → oc' k ∨ W.heap.size ≤ k) (hf : Foot oc' W W') : Two oc or w c r m m2 o2 or' W' where
  a := ha
  b := h.b.foot hf fun k h1 h2 => h.dis k h2 h1
  dis := fun k h1 h2 => (ho k h1).elim (fun x => h.dis k x h2) fun x => by have := h.b.lt k h2; omega
  nc := fun k h1 => (ho k h1).elim (h.nc k) fun x => Or.inr (Nat.le_trans h.foot.size x)
  nr := h.nr
  foot := Foot.thenNew h.foot hf fun i hi hy => (h.nc i hy).imp id fun x => by omega
theorem Two.ref (h : Two oc or w c r m1 m2 oc' or' W) (ha : RefAt o2 W' r m) (ho : ∀ k, o2 k → or' k ∨ W.heap.size ≤ k) (hf : Foot or' W W') : Two oc or w c r m1 m oc' o2 W' where
  a := h.a.foot hf fun k h1 h2 => h.dis k h1 h2
  b := ha
  dis := fun k h1 h2 => (ho k h2).elim (fun x => h.dis k h1 x) fun x => by have := h.a.lt k h1; omega
  nc := h.nc
  nr := fun k h1 => (ho k h1).elim (h.nr k) fun x => Or.inr (Nat.le_trans h.foot.size x)
  foot := Foot.thenNew h.foot hf fun i hi hy => (h.nr i hy).elim Or.inr fun x => by omega
theorem Two.drew (h : Two oc or w c r m1 m2 oc' or' W) : Two oc or w c r m1 m2 oc' or' W.drew := ⟨h.a.drewN 1, h.b.drewN 1, h.dis, h.nc, h.nr, h.foot.trans (Foot.drew _ _)⟩
/-- What lies beside the two stays. -/
theorem Two.aside (h : Two oc or w c r m1 m2 oc' or' W) {k : Nat} (hk : k < w.heap.size) (h1 : ¬ oc k) (h2 : ¬ or k) : W.heap[k]? = w.heap[k]? := h.foot.block k hk fun x => x.elim h1 h2
end
/-- Both have done it. -/
structure Done (oc or : Nat → Prop) (w : World) (c r : Nat) (m : Chp) (e : Ending) (w' : World) : Prop where
  e : e = .returned (.bool true)
  h : ∃ oc' or', Two oc or w c r m m oc' or' w'
theorem Done.drew {oc or : Nat → Prop} {w : World} {c r : Nat} {m : Chp} {e : Ending} {w' : World} (h : Done oc or w c r m e w') : Done oc or w c r m e w'.drew := by
  obtain ⟨he, oc', or', h⟩ := h
  exact ⟨he, oc', or', h.drew⟩
/-- The act's own block. -/
def cellsA (k b p : Int) (s : ByteArray) : Array Value := #[.int .i64 k, .int .i64 b, .int .i64 p, .string s]
structure SX (oc or : Nat → Prop) (w : World) (c r x : Nat) (k b p : Int) (s : ByteArray) (m1 m2 : Chp) (W : World) : Prop where
  t : ∃ oc' or', Two oc or w c r m1 m2 oc' or' W
  hx : W.heap[x]? = some (.cells (cellsA k b p s) 44 (0, 0))
  xc : ¬ oc x
  xr : ¬ or x
  xl : x < w.heap.size
section
variable {oc or : Nat → Prop} {w W : World} {c r x K : Nat} {k b p : Int} {s : ByteArray} {m1 m2 m : Chp}
theorem SX.c0 (h : SX oc or w c r x k b p s m1 m2 W) : W.cell? ⟨x, 0, none⟩ = some (.int .i64 k) := by rw [cell_of_row _ _ _ _ _ _ h.hx]; rfl
theorem SX.c1 (h : SX oc or w c r x k b p s m1 m2 W) : W.cell? ⟨x, 1, none⟩ = some (.int .i64 b) := by rw [cell_of_row _ _ _ _ _ _ h.hx]; rfl
theorem SX.c2 (h : SX oc or w c r x k b p s m1 m2 W) : W.cell? ⟨x, 2, none⟩ = some (.int .i64 p) := by rw [cell_of_row _ _ _ _ _ _ h.hx]; rfl
theorem SX.c3 (h : SX oc or w c r x k b p s m1 m2 W) : W.cell? ⟨x, 3, none⟩ = some (.string s) := by rw [cell_of_row _ _ _ _ _ _ h.hx]; rfl
end
/-! ### Program -/
def V3 (c r x : Nat) (b p : Int) (s : ByteArray) (q : Int) : Nat → Value
  | 0 => .pointer (some ⟨c, 0, none⟩)
  | 1 => .pointer (some ⟨x, 1, none⟩)
  | 2 => .int .i64 b
  | 3 => .pointer (some ⟨x, 2, none⟩)
  | 4 => .int .i64 p
  | 5 => .pointer (some ⟨x, 3, none⟩)
  | 6 => .string s
  | 7 => .int .i64 q
  | 8 => .pointer (some ⟨r, 0, none⟩)
  | 9 => .pointer (some ⟨x, 1, none⟩)
  | 10 => .int .i64 b
  | 11 => .pointer (some ⟨x, 2, none⟩)
  | 12 => .int .i64 p
  | 13 => .pointer (some ⟨x, 3, none⟩)
  | 14 => .string s
  | 15 => .int .i64 q
  | _ => .bool true
def S3 (oc or : Nat → Prop) (w : World) (c r x : Nat) (k b p : Int) (s : ByteArray) (m m' : Chp) (i j : Nat) (l : Nat → Bool) (W : World) : Prop := SX oc or w c r x k b p s (if l i = true then m' else m) (if l j = true then m' else m) W
theorem S3.simple {oc or : Nat → Prop} {w W : World} {c r x : Nat} {k b p : Int} {s : ByteArray} {m m' : Chp} {i j n : Nat} {l : Nat → Bool} (h : S3 oc or w c r x k b p s m m' i j l W) (hi : i ≠ n) (hj : j ≠ n) : S3 oc or w c r x k b p s m m' i j (Calm2.up l n) W := by
  unfold S3 Calm2.up at *
  rw [if_neg hi, if_neg hj]
  exact h
section
variable {oc or oc' or' o2 : Nat → Prop} {w W W' : World} {c r x i j K : Nat} {k b p q : Int} {s : ByteArray} {m m' m1 m2 : Chp} {l : Nat → Bool} {e : Ending}
theorem SX.chip (h : SX oc or w c r x k b p s m1 m2 W) : ∃ oc', ChipAt oc' W c m1 ∧ ∀ m3 o2 W', ChipAt o2 W' c m3 → (∀ k, o2 k → oc' k ∨ W.heap.size ≤ k) → Foot oc' W W' → SX oc or w c r x k b p s m3 m2 W' := by
  obtain ⟨oc', or', ht⟩ := h.t
  refine ⟨oc', ht.a, fun m3 o2 W' h1 h2 h3 => ⟨⟨o2, or', ht.chip h1 h2 h3⟩, ?_, h.xc, h.xr, h.xl⟩⟩
  rw [h3.block _ (Array.getElem?_eq_some_iff.1 h.hx).1 (fun y => (ht.nc _ y).elim h.xc fun z => by have := h.xl; omega)]
  exact h.hx
theorem SX.ref (h : SX oc or w c r x k b p s m1 m2 W) : ∃ or', RefAt or' W r m2 ∧ ∀ m3 o2 W', RefAt o2 W' r m3 → (∀ k, o2 k → or' k ∨ W.heap.size ≤ k) → Foot or' W W' → SX oc or w c r x k b p s m1 m3 W' := by
  obtain ⟨oc', or', ht⟩ := h.t
  refine ⟨or', ht.b, fun m3 o2 W' h1 h2 h3 => ⟨⟨oc', o2, ht.ref h1 h2 h3⟩, ?_, h.xc, h.xr, h.xl⟩⟩
  rw [h3.block _ (Array.getElem?_eq_some_iff.1 h.hx).1 (fun y => (ht.nr _ y).elim h.xr fun z => by have := h.xl; omega)]
  exact h.hx
theorem SX.drew (h : SX oc or w c r x k b p s m1 m2 W) : SX oc or w c r x k b p s m1 m2 W.drew := by
  obtain ⟨oc', or', ht⟩ := h.t
  exact ⟨⟨oc', or', ht.drew⟩, h.hx, h.xc, h.xr, h.xl⟩
theorem S3.call1 (h : S3 oc or w c r x k b p s m m' i j l W) (hl : l i = false) (hij : i ≠ j) : ∃ oc', ChipAt oc' W c m ∧ ∀ q e W', ToldC oc' W c (q, m') e W' → S3 oc or w c r x k b p s m m' i j (Calm2.up l i) W' := by
  unfold S3 at h
  rw [if_neg (by simp [hl])] at h
  obtain ⟨oc', h1, h2⟩ := h.chip
  refine ⟨oc', h1, fun q e W' ht => ?_⟩
  unfold S3 Calm2.up
  rw [if_pos rfl, if_pos rfl, if_neg (Ne.symm hij)]
  exact h2 _ _ _ ht.h (fun k hk => Or.inl hk) ht.f
theorem S3.call2 (h : S3 oc or w c r x k b p s m m' i j l W) (hl : l j = false) (hij : i ≠ j) : ∃ or', RefAt or' W r m ∧ ∀ q e W', ToldR or' W r (q, m') e W' → S3 oc or w c r x k b p s m m' i j (Calm2.up l j) W' := by
  unfold S3 at h
  rw [if_neg (c := l j = true) (by simp [hl])] at h
  obtain ⟨or', h1, h2⟩ := h.ref
  refine ⟨or', h1, fun q e W' ht => ?_⟩
  unfold S3 Calm2.up
  rw [if_pos (c := j = j) rfl, if_pos (c := true = true) rfl, if_neg hij]
  obtain ⟨o2, hr, ho⟩ := ht.h
  exact h2 _ _ _ hr ho ht.f
theorem S3.x1 (h : S3 oc or w c r x k b p s m m' i j l W) : W.cell? ⟨x, 1, none⟩ = some (.int .i64 b) := SX.c1 h
theorem S3.x2 (h : S3 oc or w c r x k b p s m m' i j l W) : W.cell? ⟨x, 2, none⟩ = some (.int .i64 p) := SX.c2 h
theorem S3.x3 (h : S3 oc or w c r x k b p s m m' i j l W) : W.cell? ⟨x, 3, none⟩ = some (.string s) := SX.c3 h
end
theorem firstX {oc or : Nat → Prop} {w : World} {c r : Nat} {m : Chp} (h1 : ChipAt oc w c m) (h2 : RefAt or w r m) (hd : ∀ k, oc k → ¬ or k) (k b p : Int) (s : ByteArray) :
    SX oc or (w.alloc (.cells (cellsA k b p s) 44)) c r w.heap.size k b p s m m (w.alloc (.cells (cellsA k b p s) 44)) where
  t := ⟨oc, or, Two.first (h1.alloc _) (h2.same (Foot.alloc or w _).size fun k hk => Below.heap_alloc _ _ _ (h2.lt k hk)) hd⟩
  hx := heap_alloc_new _ _
  xc := fun y => by have := h1.lt _ y; omega
  xr := fun y => by have := h2.lt _ y; omega
  xl := (Array.getElem?_eq_some_iff.1 (heap_alloc_new _ _)).1
theorem SX.done {oc or : Nat → Prop} {w W : World} {c r x : Nat} {k b p : Int} {s : ByteArray} {m m' : Chp} {o : Obj} (h1 : ChipAt oc w c m) (h2 : RefAt or w r m) (h : SX oc or (w.alloc o) c r x k b p s m' m' W) : ∃ oc' or', Two oc or w c r m' m' oc' or' W := by
  obtain ⟨oc', or', t⟩ := h.t
  have hs : w.heap.size ≤ (w.alloc o).heap.size := (Foot.alloc oc w o).size
  exact ⟨oc', or', t.a, t.b, t.dis, fun k hk => (t.nc k hk).imp id fun x => Nat.le_trans hs x, fun k hk => (t.nr k hk).imp id fun x => Nat.le_trans hs x, (Foot.alloc _ _ _).trans t.foot⟩
variable {oc or : Nat → Prop} {w : World} {c r K : Nat} {m : Chp}
theorem both_0 (h1 : ChipAt oc w c m) (h2 : RefAt or w r m) (hd : ∀ k, oc k → ¬ or k) (ok : Ok m K) (b p : Int) (s : ByteArray) :
    Calls Try.prog 20 #[.pointer (some ⟨c, 0, none⟩), .pointer (some ⟨r, 0, none⟩), .agg (cellsA 0 b p s)] w (Done oc or w c r (doProgram m b p s).2) := by
  have hX := firstX h1 h2 hd 0 b p s
  unfold cellsA at hX ⊢
  go_enter Try.func20, Try.ntmps20
  go_wp2_with fail
  refine Calm2.calm_region (S3 oc or (w.alloc (.cells #[.int .i64 0, .int .i64 b, .int .i64 p, .string s] 44)) c r w.heap.size 0 b p s m (doProgram m b p s).2 7 15) (fun _ _ => True) (fun i v _ => v = V3 c r w.heap.size b p s (doProgram m b p s).1 i) [0, 1, 5] (by kernel_rfl) (by kernel_rfl) (by kernel_rfl) (fun _ _ _ _ h _ => h) (fun _ => trivial) (SX.drew hX) ?_ ?_
  · simp only [Calm.Steps, Calm2.Step]
    refine ⟨?_, ?_, ?_, ?_, ?_, ?_, ?_, ?_, ?_, ?_, ?_, ?_, ?_, ?_, ?_, ?_, ?_, ?_, trivial⟩ <;> intro l a W hl hdn hS hNd hF <;> simp [Calm.needs, Calm.same, Calm.Left, V3, Region.binds, Calm2.done] at hNd hF hdn
    · refine Calm2.step_val (i := 0) (S := S3 oc or _ c r _ 0 b p s m (doProgram m b p s).2 7 15) (E := fun _ _ => True) (V := fun i v _ => v = V3 c r w.heap.size b p s (doProgram m b p s).1 i) (Calm.wanted_none rfl) _ ?_ (S3.simple hS (by decide) (by decide)) trivial rfl
      simp [go_sem, Act.eval, V3, hF]
    · refine Calm2.step_val (i := 1) (S := S3 oc or _ c r _ 0 b p s m (doProgram m b p s).2 7 15) (E := fun _ _ => True) (V := fun i v _ => v = V3 c r w.heap.size b p s (doProgram m b p s).1 i) (Calm.wanted_none rfl) _ ?_ (S3.simple hS (by decide) (by decide)) trivial rfl
      simp [go_sem, Act.eval, V3, hF]
    · refine Calm2.step_val (i := 2) (S := S3 oc or _ c r _ 0 b p s m (doProgram m b p s).2 7 15) (E := fun _ _ => True) (V := fun i v _ => v = V3 c r w.heap.size b p s (doProgram m b p s).1 i) (Calm.wanted_none rfl) _ ?_ (S3.simple hS (by decide) (by decide)) trivial rfl
      simp [go_sem, Act.eval, V3, hNd, S3.x1 hS]
    · refine Calm2.step_val (i := 3) (S := S3 oc or _ c r _ 0 b p s m (doProgram m b p s).2 7 15) (E := fun _ _ => True) (V := fun i v _ => v = V3 c r w.heap.size b p s (doProgram m b p s).1 i) (Calm.wanted_none rfl) _ ?_ (S3.simple hS (by decide) (by decide)) trivial rfl
      simp [go_sem, Act.eval, V3, hF]
    · refine Calm2.step_val (i := 4) (S := S3 oc or _ c r _ 0 b p s m (doProgram m b p s).2 7 15) (E := fun _ _ => True) (V := fun i v _ => v = V3 c r w.heap.size b p s (doProgram m b p s).1 i) (Calm.wanted_none rfl) _ ?_ (S3.simple hS (by decide) (by decide)) trivial rfl
      simp [go_sem, Act.eval, V3, hNd, S3.x2 hS]
    · refine Calm2.step_val (i := 5) (S := S3 oc or _ c r _ 0 b p s m (doProgram m b p s).2 7 15) (E := fun _ _ => True) (V := fun i v _ => v = V3 c r w.heap.size b p s (doProgram m b p s).1 i) (Calm.wanted_none rfl) _ ?_ (S3.simple hS (by decide) (by decide)) trivial rfl
      simp [go_sem, Act.eval, V3, hF]
    · refine Calm2.step_val (i := 6) (S := S3 oc or _ c r _ 0 b p s m (doProgram m b p s).2 7 15) (E := fun _ _ => True) (V := fun i v _ => v = V3 c r w.heap.size b p s (doProgram m b p s).1 i) (Calm.wanted_none rfl) _ ?_ (S3.simple hS (by decide) (by decide)) trivial rfl
      simp [go_sem, Act.eval, V3, hNd, S3.x3 hS]
    · obtain ⟨oc', hc, ht⟩ := S3.call1 hS hl (by decide)
      refine Calm2.step_call (i := 7) (S := S3 oc or _ c r _ 0 b p s m (doProgram m b p s).2 7 15) (E := fun _ _ => True) (V := fun i v _ => v = V3 c r w.heap.size b p s (doProgram m b p s).1 i) (Calm.wanted_none rfl) (f := 14) (args := #[.pointer (some ⟨c, 0, none⟩), .int .i64 b, .int .i64 p, .string s]) (w1 := W) (by simp [go_sem, Act.eval, hNd]) ?_
      exact (program_c hc ok b p s).mono fun e W' hh => ⟨_, hh.e, ht _ _ _ hh, trivial, rfl⟩
    · refine Calm2.step_val (i := 8) (S := S3 oc or _ c r _ 0 b p s m (doProgram m b p s).2 7 15) (E := fun _ _ => True) (V := fun i v _ => v = V3 c r w.heap.size b p s (doProgram m b p s).1 i) (Calm.wanted_none rfl) _ ?_ (S3.simple hS (by decide) (by decide)) trivial rfl
      simp [go_sem, Act.eval, V3, hF]
    · refine Calm2.step_val (i := 9) (S := S3 oc or _ c r _ 0 b p s m (doProgram m b p s).2 7 15) (E := fun _ _ => True) (V := fun i v _ => v = V3 c r w.heap.size b p s (doProgram m b p s).1 i) (Calm.wanted_none rfl) _ ?_ (S3.simple hS (by decide) (by decide)) trivial rfl
      simp [go_sem, Act.eval, V3, hF]
    · refine Calm2.step_val (i := 10) (S := S3 oc or _ c r _ 0 b p s m (doProgram m b p s).2 7 15) (E := fun _ _ => True) (V := fun i v _ => v = V3 c r w.heap.size b p s (doProgram m b p s).1 i) (Calm.wanted_none rfl) _ ?_ (S3.simple hS (by decide) (by decide)) trivial rfl
      simp [go_sem, Act.eval, V3, hNd, S3.x1 hS]
    · refine Calm2.step_val (i := 11) (S := S3 oc or _ c r _ 0 b p s m (doProgram m b p s).2 7 15) (E := fun _ _ => True) (V := fun i v _ => v = V3 c r w.heap.size b p s (doProgram m b p s).1 i) (Calm.wanted_none rfl) _ ?_ (S3.simple hS (by decide) (by decide)) trivial rfl
      simp [go_sem, Act.eval, V3, hF]
    · refine Calm2.step_val (i := 12) (S := S3 oc or _ c r _ 0 b p s m (doProgram m b p s).2 7 15) (E := fun _ _ => True) (V := fun i v _ => v = V3 c r w.heap.size b p s (doProgram m b p s).1 i) (Calm.wanted_none rfl) _ ?_ (S3.simple hS (by decide) (by decide)) trivial rfl
      simp [go_sem, Act.eval, V3, hNd, S3.x2 hS]
    · refine Calm2.step_val (i := 13) (S := S3 oc or _ c r _ 0 b p s m (doProgram m b p s).2 7 15) (E := fun _ _ => True) (V := fun i v _ => v = V3 c r w.heap.size b p s (doProgram m b p s).1 i) (Calm.wanted_none rfl) _ ?_ (S3.simple hS (by decide) (by decide)) trivial rfl
      simp [go_sem, Act.eval, V3, hF]
    · refine Calm2.step_val (i := 14) (S := S3 oc or _ c r _ 0 b p s m (doProgram m b p s).2 7 15) (E := fun _ _ => True) (V := fun i v _ => v = V3 c r w.heap.size b p s (doProgram m b p s).1 i) (Calm.wanted_none rfl) _ ?_ (S3.simple hS (by decide) (by decide)) trivial rfl
      simp [go_sem, Act.eval, V3, hNd, S3.x3 hS]
    · obtain ⟨oc', hc, ht⟩ := S3.call2 hS hl (by decide)
      refine Calm2.step_call (i := 15) (S := S3 oc or _ c r _ 0 b p s m (doProgram m b p s).2 7 15) (E := fun _ _ => True) (V := fun i v _ => v = V3 c r w.heap.size b p s (doProgram m b p s).1 i) (Calm.wanted_none rfl) (f := 33) (args := #[.pointer (some ⟨r, 0, none⟩), .int .i64 b, .int .i64 p, .string s]) (w1 := W) (by simp [go_sem, Act.eval, hNd]) ?_
      exact (program_r hc ok b p s).mono fun e W' hh => ⟨_, hh.e, ht _ _ _ hh, trivial, rfl⟩
    · refine Calm2.step_val (i := 16) (S := S3 oc or _ c r _ 0 b p s m (doProgram m b p s).2 7 15) (E := fun _ _ => True) (V := fun i v _ => v = V3 c r w.heap.size b p s (doProgram m b p s).1 i) (Calm.wanted_none rfl) _ ?_ (S3.simple hS (by decide) (by decide)) trivial rfl
      simp [go_sem, Act.eval, V3, hNd]
    · refine Calm2.step_val (i := 17) (S := S3 oc or _ c r _ 0 b p s m (doProgram m b p s).2 7 15) (E := fun _ _ => True) (V := fun i v _ => v = V3 c r w.heap.size b p s (doProgram m b p s).1 i) (Calm.wanted_none rfl) _ ?_ (S3.simple hS (by decide) (by decide)) trivial rfl
      simp [go_sem, Act.eval, V3, hNd]
  · intro a W hI
    have h6 := hI.left 17 rfl
    have hS := hI.s
    have hdf := hI.d
    clear hI
    simp [Calm.Left, V3] at h6
    go_wp2_with fail
    refine bodyPost_ret (results_tmp rfl _ _ _) hdf ?_
    exact ⟨by simp [h6], SX.done h1 h2 hS⟩
/-! ### Erase -/
def V5 (c r x : Nat) (b q : Int) : Nat → Value
  | 0 => .pointer (some ⟨c, 0, none⟩)
  | 1 => .pointer (some ⟨x, 1, none⟩)
  | 2 => .int .i64 b
  | 3 => .int .i64 q
  | 4 => .pointer (some ⟨r, 0, none⟩)
  | 5 => .pointer (some ⟨x, 1, none⟩)
  | 6 => .int .i64 b
  | 7 => .int .i64 q
  | _ => .bool true
theorem both_1 (h1 : ChipAt oc w c m) (h2 : RefAt or w r m) (hd : ∀ k, oc k → ¬ or k) (ok : Ok m K) (hK : K < 9223372036854775807) (b p : Int) (s : ByteArray) :
    Calls Try.prog 20 #[.pointer (some ⟨c, 0, none⟩), .pointer (some ⟨r, 0, none⟩), .agg (cellsA 1 b p s)] w (Done oc or w c r (doErase m b).2) := by
  have hX := firstX h1 h2 hd 1 b p s
  unfold cellsA at hX ⊢
  go_enter Try.func20, Try.ntmps20
  go_wp2_with fail
  refine Calm2.calm_region (S3 oc or (w.alloc (.cells #[.int .i64 1, .int .i64 b, .int .i64 p, .string s] 44)) c r w.heap.size 1 b p s m (doErase m b).2 3 7) (fun _ _ => True) (fun i v _ => v = V5 c r w.heap.size b (doErase m b).1 i) [0, 1, 5] (by kernel_rfl) (by kernel_rfl) (by kernel_rfl) (fun _ _ _ _ h _ => h) (fun _ => trivial) (SX.drew hX) ?_ ?_
  · simp only [Calm.Steps, Calm2.Step]
    refine ⟨?_, ?_, ?_, ?_, ?_, ?_, ?_, ?_, ?_, ?_, trivial⟩ <;> intro l a W hl hdn hS hNd hF <;> simp [Calm.needs, Calm.same, Calm.Left, V5, Region.binds, Calm2.done] at hNd hF hdn
    · refine Calm2.step_val (i := 0) (S := S3 oc or _ c r _ 1 b p s m (doErase m b).2 3 7) (E := fun _ _ => True) (V := fun i v _ => v = V5 c r w.heap.size b (doErase m b).1 i) (Calm.wanted_none rfl) _ ?_ (S3.simple hS (by decide) (by decide)) trivial rfl
      simp [go_sem, Act.eval, V5, hF]
    · refine Calm2.step_val (i := 1) (S := S3 oc or _ c r _ 1 b p s m (doErase m b).2 3 7) (E := fun _ _ => True) (V := fun i v _ => v = V5 c r w.heap.size b (doErase m b).1 i) (Calm.wanted_none rfl) _ ?_ (S3.simple hS (by decide) (by decide)) trivial rfl
      simp [go_sem, Act.eval, V5, hF]
    · refine Calm2.step_val (i := 2) (S := S3 oc or _ c r _ 1 b p s m (doErase m b).2 3 7) (E := fun _ _ => True) (V := fun i v _ => v = V5 c r w.heap.size b (doErase m b).1 i) (Calm.wanted_none rfl) _ ?_ (S3.simple hS (by decide) (by decide)) trivial rfl
      simp [go_sem, Act.eval, V5, hNd, S3.x1 hS]
    · obtain ⟨oc', hc, ht⟩ := S3.call1 hS hl (by decide)
      refine Calm2.step_call (i := 3) (S := S3 oc or _ c r _ 1 b p s m (doErase m b).2 3 7) (E := fun _ _ => True) (V := fun i v _ => v = V5 c r w.heap.size b (doErase m b).1 i) (Calm.wanted_none rfl) (f := 11) (args := #[.pointer (some ⟨c, 0, none⟩), .int .i64 b]) (w1 := W) (by simp [go_sem, Act.eval, hNd]) ?_
      exact (erase_c hc ok hK b).mono fun e W' hh => ⟨_, hh.e, ht _ _ _ hh, trivial, rfl⟩
    · refine Calm2.step_val (i := 4) (S := S3 oc or _ c r _ 1 b p s m (doErase m b).2 3 7) (E := fun _ _ => True) (V := fun i v _ => v = V5 c r w.heap.size b (doErase m b).1 i) (Calm.wanted_none rfl) _ ?_ (S3.simple hS (by decide) (by decide)) trivial rfl
      simp [go_sem, Act.eval, V5, hF]
    · refine Calm2.step_val (i := 5) (S := S3 oc or _ c r _ 1 b p s m (doErase m b).2 3 7) (E := fun _ _ => True) (V := fun i v _ => v = V5 c r w.heap.size b (doErase m b).1 i) (Calm.wanted_none rfl) _ ?_ (S3.simple hS (by decide) (by decide)) trivial rfl
      simp [go_sem, Act.eval, V5, hF]
    · refine Calm2.step_val (i := 6) (S := S3 oc or _ c r _ 1 b p s m (doErase m b).2 3 7) (E := fun _ _ => True) (V := fun i v _ => v = V5 c r w.heap.size b (doErase m b).1 i) (Calm.wanted_none rfl) _ ?_ (S3.simple hS (by decide) (by decide)) trivial rfl
      simp [go_sem, Act.eval, V5, hNd, S3.x1 hS]
    · obtain ⟨oc', hc, ht⟩ := S3.call2 hS hl (by decide)
      refine Calm2.step_call (i := 7) (S := S3 oc or _ c r _ 1 b p s m (doErase m b).2 3 7) (E := fun _ _ => True) (V := fun i v _ => v = V5 c r w.heap.size b (doErase m b).1 i) (Calm.wanted_none rfl) (f := 34) (args := #[.pointer (some ⟨r, 0, none⟩), .int .i64 b]) (w1 := W) (by simp [go_sem, Act.eval, hNd]) ?_
      exact (erase_r hc ok hK b).mono fun e W' hh => ⟨_, hh.e, ht _ _ _ hh, trivial, rfl⟩
    · refine Calm2.step_val (i := 8) (S := S3 oc or _ c r _ 1 b p s m (doErase m b).2 3 7) (E := fun _ _ => True) (V := fun i v _ => v = V5 c r w.heap.size b (doErase m b).1 i) (Calm.wanted_none rfl) _ ?_ (S3.simple hS (by decide) (by decide)) trivial rfl
      simp [go_sem, Act.eval, V5, hNd]
    · refine Calm2.step_val (i := 9) (S := S3 oc or _ c r _ 1 b p s m (doErase m b).2 3 7) (E := fun _ _ => True) (V := fun i v _ => v = V5 c r w.heap.size b (doErase m b).1 i) (Calm.wanted_none rfl) _ ?_ (S3.simple hS (by decide) (by decide)) trivial rfl
      simp [go_sem, Act.eval, V5, hNd]
  · intro a W hI
    have h6 := hI.left 9 rfl
    have hS := hI.s
    have hdf := hI.d
    clear hI
    simp [Calm.Left, V5] at h6
    go_wp2_with fail
    refine bodyPost_ret (results_tmp rfl _ _ _) hdf ?_
    exact ⟨by simp [h6], SX.done h1 h2 hS⟩
/-! ### Fail, Fuse, Revive -/
/-- A step on the chip alone. -/
theorem SX.left {oc or : Nat → Prop} {w W : World} {c r x : Nat} {k b p : Int} {s : ByteArray} {m1 m2 m3 : Chp} (h : SX oc or w c r x k b p s m1 m2 W) : ∃ oc', ChipAt oc' W c m1 ∧ ∀ e W', ChipC.Left oc' W c m3 e W' → SX oc or w c r x k b p s m3 m2 W' := by
  obtain ⟨oc', h1, h2⟩ := h.chip
  refine ⟨oc', h1, fun e W' hh => ?_⟩
  obtain ⟨o2, h3, h4⟩ := hh.h
  exact h2 _ _ _ h3 h4 hh.f
theorem both_3 (h1 : ChipAt oc w c m) (h2 : RefAt or w r m) (hd : ∀ k, oc k → ¬ or k) (ok : Ok m K) (b p : Int) (hp : -9223372036854775808 ≤ p ∧ p ≤ 9223372036854775807) (s : ByteArray) :
    Calls Try.prog 20 #[.pointer (some ⟨c, 0, none⟩), .pointer (some ⟨r, 0, none⟩), .agg (cellsA 3 b p s)] w (Done oc or w c r (setFuse m p s)) := by
  have hX := firstX h1 h2 hd 3 b p s
  unfold cellsA at hX ⊢
  go_enter Try.func20, Try.ntmps20
  go_wp2_with fail
  obtain ⟨oc', hc, hn⟩ := SX.left (m3 := setFuse m p s) hX
  refine (fuse_c hc p hp.2 s).mono ?_
  rintro e W hh
  have hY := hn _ _ hh
  obtain ⟨rfl, _, _⟩ := hh
  clear hn hc
  obtain ⟨or', ⟨rb, cap, cs, pg, fu, tx, hr⟩, hn⟩ := hY.ref
  have hxr : w.heap.size ≠ r := fun e => by
    have h1 := hY.hx
    rw [e, hr.hr] at h1
    injection h1 with h1
    injection h1 with _ h1
    exact absurd h1 (by decide)
  have x2 := hY.c2
  have c4 := hr.c4
  have hfz := hr.rfroz
  have e1 := heap_setCell_same _ _ 4 _ _ (.bool (decide (0 ≤ p))) hr.hr
  have e2 := heap_setCell_same _ _ 5 _ _ (.int .i64 (min p 1073741824)) e1
  have y5 : (W.setCell ⟨r, 4, none⟩ (.bool (decide (0 ≤ p)))).cell? ⟨r, 5, none⟩ = some (.int .i64 fu) := by rw [cell_of_row _ _ _ _ _ _ e1]; rfl
  have yf := fun o => frozen_of_row _ _ o _ _ e1
  have yx := (heap_setCell_other W ⟨r, 4, none⟩ _ (.bool (decide (0 ≤ p))) hxr).trans hY.hx
  have y2 : (W.setCell ⟨r, 4, none⟩ (.bool (decide (0 ≤ p)))).cell? ⟨w.heap.size, 2, none⟩ = some (.int .i64 p) := by rw [cell_of_row _ _ _ _ _ _ yx]; rfl
  have z6 : ((W.setCell ⟨r, 4, none⟩ (.bool (decide (0 ≤ p)))).setCell ⟨r, 5, none⟩ (.int .i64 (min p 1073741824))).cell? ⟨r, 6, none⟩ = some (.string tx) := by rw [cell_of_row _ _ _ _ _ _ e2]; rfl
  have zf := fun o => frozen_of_row _ _ o _ _ e2
  have zx := (heap_setCell_other (W.setCell ⟨r, 4, none⟩ (.bool (decide (0 ≤ p)))) ⟨r, 5, none⟩ _ (.int .i64 (min p 1073741824)) hxr).trans yx
  have z3 : ((W.setCell ⟨r, 4, none⟩ (.bool (decide (0 ≤ p)))).setCell ⟨r, 5, none⟩ (.int .i64 (min p 1073741824))).cell? ⟨w.heap.size, 3, none⟩ = some (.string s) := by rw [cell_of_row _ _ _ _ _ _ zx]; rfl
  have hD : Done oc or w c r (setFuse m p s) (.returned (.bool true)) (fuseR W r (decide (0 ≤ p)) (min p 1073741824) s) := ⟨rfl, SX.done h1 h2 (hn _ _ _ (hr.fuse p s).ref (fun _ hk => Or.inl hk) (((Foot.setCell _ _ _ hr.oc).trans (Foot.setCell _ _ _ hr.oc)).trans (Foot.setCell _ _ _ hr.oc)))⟩
  unfold fuseR at hD
  clear hn hr hX hY h1 h2 hd e1 e2 yx zx ok
  by_cases hlt : p ≤ 1073741824
  · rw [Int.min_eq_left hlt] at z6 z3 zf hD
    go_wp2_with fail
    go_ret
    exact hD
  · rw [Int.min_eq_right (by omega)] at z6 z3 zf hD
    go_wp2_with fail
    go_ret
    exact hD
theorem both_4 (h1 : ChipAt oc w c m) (h2 : RefAt or w r m) (hd : ∀ k, oc k → ¬ or k) (b p : Int) (s : ByteArray) :
    Calls Try.prog 20 #[.pointer (some ⟨c, 0, none⟩), .pointer (some ⟨r, 0, none⟩), .agg (cellsA 4 b p s)] w (Done oc or w c r (revive m)) := by
  have hX := firstX h1 h2 hd 4 b p s
  unfold cellsA at hX ⊢
  go_enter Try.func20, Try.ntmps20
  go_wp2_with fail
  obtain ⟨oc', hc, hn⟩ := hX.chip
  refine (revive_c hc).mono ?_
  rintro e W ⟨rfl, ha, hf⟩
  have hY := hn _ _ _ ha (fun _ hk => Or.inl hk) hf
  clear hn hc ha hf
  obtain ⟨or', ⟨rb, cap, cs, pg, fu, tx, hr⟩, hn⟩ := hY.ref
  have c3 := hr.c3
  have hfz := hr.rfroz
  have e1 := heap_setCell_same _ _ 3 _ _ (.bool false) hr.hr
  have y4 : (W.setCell ⟨r, 3, none⟩ (.bool false)).cell? ⟨r, 4, none⟩ = some (.bool m.fuse.isSome) := by rw [cell_of_row _ _ _ _ _ _ e1]; rfl
  have yf := fun o => frozen_of_row _ _ o _ _ e1
  have hD : Done oc or w c r (revive m) (.returned (.bool true)) ((W.setCell ⟨r, 3, none⟩ (.bool false)).setCell ⟨r, 4, none⟩ (.bool false)) := ⟨rfl, SX.done h1 h2 (hn _ _ _ ((hr.dead false).unfuse).ref (fun _ hk => Or.inl hk) ((Foot.setCell _ _ _ hr.oc).trans (Foot.setCell _ _ _ hr.oc)))⟩
  clear hn hr hX hY h1 h2 hd e1
  go_wp2_with fail
  go_ret
  exact hD
theorem both_5 (h1 : ChipAt oc w c m) (h2 : RefAt or w r m) (hd : ∀ k, oc k → ¬ or k) (ok : Ok m K) (k b p : Int) (hk : k ≠ 0 ∧ k ≠ 1 ∧ k ≠ 2 ∧ k ≠ 3 ∧ k ≠ 4) (s : ByteArray) :
    Calls Try.prog 20 #[.pointer (some ⟨c, 0, none⟩), .pointer (some ⟨r, 0, none⟩), .agg (cellsA k b p s)] w (Done oc or w c r m) := by
  have hX := firstX h1 h2 hd k b p s
  have k0 : decide (k = 0) = false := decide_eq_false hk.1
  have k1 : decide (k = 1) = false := decide_eq_false hk.2.1
  have k2 : decide (k = 2) = false := decide_eq_false hk.2.2.1
  have k3 : decide (k = 3) = false := decide_eq_false hk.2.2.2.1
  have k4 : decide (k = 4) = false := decide_eq_false hk.2.2.2.2
  obtain ⟨k0', k1', k2', k3', k4'⟩ := hk
  unfold cellsA at hX ⊢
  go_enter Try.func20, Try.ntmps20
  go_wp2_with fail
  obtain ⟨oc', or', ht⟩ := hX.t
  have x1 := hX.c1
  have x2 := hX.c2
  unfold cellsA at x1 x2
  have hc := read_c ht.a ok b p
  have hr := read_r ht.b ok b p
  have hD : Done oc or w c r m (.returned (.bool true)) (w.alloc (.cells #[.int .i64 k, .int .i64 b, .int .i64 p, .string s] 44)) := ⟨rfl, SX.done h1 h2 hX⟩
  generalize (readAt m b p).1 = t at hc hr
  generalize (readAt m b p).2 = ok2 at hc hr
  clear ht hX h1 h2 hd ok
  refine hc.mono ?_
  rintro e W ⟨rfl, rfl⟩
  go_wp2_with fail
  refine hr.mono ?_
  rintro e W ⟨rfl, rfl⟩
  go_wp2_with fail
  go_ret
  simpa using hD
theorem both_2no (h1 : ChipAt oc w c m) (h2 : RefAt or w r m) (hd : ∀ k, oc k → ¬ or k) (ok : Ok m K) (b p : Int) (ht : there m b = false) (s : ByteArray) :
    Calls Try.prog 20 #[.pointer (some ⟨c, 0, none⟩), .pointer (some ⟨r, 0, none⟩), .agg (cellsA 2 b p s)] w (Done oc or w c r (fail m b s)) := by
  have hX := firstX h1 h2 hd 2 b p s
  unfold cellsA at hX ⊢
  go_enter Try.func20, Try.ntmps20
  go_wp2_with fail
  obtain ⟨oc', hc, hn⟩ := SX.left (m3 := fail m b s) hX
  refine (fail_c hc ok b s).mono ?_
  rintro e W hh
  have hY := hn _ _ hh
  obtain ⟨rfl, _, _⟩ := hh
  clear hn hc
  have x1 := hY.c1
  obtain ⟨or', hr, hn⟩ := hY.ref
  have ct := there_r hr ok b
  have hm : fail m b s = m := by unfold fail; rw [ht]; rfl
  have hD : Done oc or w c r (fail m b s) (.returned (.bool true)) W := ⟨rfl, SX.done h1 h2 (by have := hY; rw [hm] at this ⊢; exact this)⟩
  rw [ht] at ct
  clear hn hr hX hY h1 h2 hd ht ok hm
  go_wp2_with fail
  refine ct.mono ?_
  rintro e W' ⟨rfl, rfl⟩
  go_wp2_with fail
  go_ret
  exact hD
theorem both_2yes (h1 : ChipAt oc w c m) (h2 : RefAt or w r m) (hd : ∀ k, oc k → ¬ or k) (ok : Ok m K) {k : Nat} (hk : k < m.n) (p : Int) (s : ByteArray) :
    Calls Try.prog 20 #[.pointer (some ⟨c, 0, none⟩), .pointer (some ⟨r, 0, none⟩), .agg (cellsA 2 (k : Int) p s)] w (Done oc or w c r (fail m (k : Int) s)) := by
  have hX := firstX h1 h2 hd 2 (k : Int) p s
  have ht : there m (k : Int) = true := by
    unfold there within
    simp
    omega
  have hn1 := ok.n1
  unfold cellsA at hX ⊢
  go_enter Try.func20, Try.ntmps20
  go_wp2_with fail
  obtain ⟨oc', hc, hn⟩ := SX.left (m3 := fail m (k : Int) s) hX
  refine (fail_c hc ok k s).mono ?_
  rintro e W hh
  have hY := hn _ _ hh
  obtain ⟨rfl, _, _⟩ := hh
  clear hn hc
  have x1 := hY.c1
  obtain ⟨or', hrA, hn⟩ := hY.ref
  have ct := there_r hrA ok (k : Int)
  rw [ht] at ct
  go_wp2_with fail
  refine ct.mono ?_
  rintro e W' ⟨rfl, rfl⟩
  obtain ⟨rb, cap, cs, pg, fu, tx, hr⟩ := hrA
  have hxb : w.heap.size ≠ rb := fun e => by
    have h1 := hY.hx
    rw [e, hr.hb] at h1
    injection h1 with h1
    injection h1 with _ h1
    exact absurd h1 (by decide)
  obtain ⟨cs', hf⟩ := hr.fail hk s
  have e1 := heap_setCell_same _ _ (k * 5 + 3) _ _ (.bool true) hr.hb
  have hr1 := hr.c0
  have b3 := hr.b3 hk
  have hbf := hr.bfroz
  have hD : Done oc or w c r (fail m (k : Int) s) (.returned (.bool true)) (failR W' rb k s) := ⟨rfl, SX.done h1 h2 (hn _ _ _ (by unfold fail; rw [ht, if_pos rfl, Int.toNat_natCast]; exact hf.ref) (fun _ hk => Or.inl hk) ((Foot.setCell _ _ _ hr.ob).trans (Foot.setCell _ _ _ hr.ob)))⟩
  have x3 := hY.c3
  have hk2 : (k : Int) < (m.n : Int) := by omega
  unfold failR at hD
  have hxr : w.heap.size ≠ r := fun e => by
    have h1 := hY.hx
    rw [e, hr.hr] at h1
    injection h1 with h1
    injection h1 with _ h1
    exact absurd h1 (by decide)
  have yx := (heap_setCell_other W' ⟨rb, k * 5 + 3, none⟩ _ (.bool true) hxb).trans hY.hx
  have yr := (heap_setCell_other W' ⟨rb, k * 5 + 3, none⟩ _ (.bool true) hr.ne).trans hr.hr
  have y0 : (W'.setCell ⟨rb, k * 5 + 3, none⟩ (.bool true)).drew.cell? ⟨r, 0, none⟩ = some (.slice (some ⟨rb, 0, none⟩) m.n cap) := by
    show (W'.setCell ⟨rb, k * 5 + 3, none⟩ (.bool true)).cell? ⟨r, 0, none⟩ = _
    rw [cell_of_row _ _ _ _ _ _ yr]; rfl
  have y1 : (W'.setCell ⟨rb, k * 5 + 3, none⟩ (.bool true)).drew.cell? ⟨w.heap.size, 1, none⟩ = some (.int .i64 (k : Int)) := by
    show (W'.setCell ⟨rb, k * 5 + 3, none⟩ (.bool true)).cell? ⟨w.heap.size, 1, none⟩ = _
    rw [cell_of_row _ _ _ _ _ _ yx]; rfl
  have y3 : (W'.setCell ⟨rb, k * 5 + 3, none⟩ (.bool true)).drew.cell? ⟨w.heap.size, 3, none⟩ = some (.string s) := by
    show (W'.setCell ⟨rb, k * 5 + 3, none⟩ (.bool true)).cell? ⟨w.heap.size, 3, none⟩ = _
    rw [cell_of_row _ _ _ _ _ _ yx]; rfl
  obtain ⟨u4, hu4, _⟩ := (hr.bs k hk).t
  have y4 : (W'.setCell ⟨rb, k * 5 + 3, none⟩ (.bool true)).drew.cell? ⟨rb, k * 5 + 4, none⟩ = some (.string u4) := by
    show (W'.setCell ⟨rb, k * 5 + 3, none⟩ (.bool true)).cell? ⟨rb, k * 5 + 4, none⟩ = _
    rw [cell_of_row _ _ _ _ _ _ e1, Array.getElem?_setIfInBounds, if_neg (by omega)]
    exact hu4
  have yf : ∀ o, (W'.setCell ⟨rb, k * 5 + 3, none⟩ (.bool true)).drew.frozen? ⟨rb, o, none⟩ = false := fun o => frozen_of_row _ _ o _ _ e1
  replace hD : Done oc or w c r (fail m (k : Int) s) (.returned (.bool true)) (((W'.setCell ⟨rb, k * 5 + 3, none⟩ (.bool true)).drew.setCell ⟨rb, k * 5 + 4, none⟩ (.string s)).drew) := hD.drew.drew
  generalize (m.blk k).fails.isSome = fb at b3
  generalize m.n = nn at hr1 hk hk2 hn1 y0
  clear hn hf hr hX hY h1 h2 hd ok ht ct yx yr e1 hu4
  go_wp2_with fail
  go_still_tail 8, (by kernel_rfl)
  go_wp2_with fail
  generalize (W'.setCell ⟨rb, k * 5 + 3, none⟩ (.bool true)).drew = W1 at hD y0 y1 y3 y4 yf ⊢
  go_still_tail 10, (by kernel_rfl)
  go_wp2_with fail
  go_ret
  exact hD
theorem both_c (h1 : ChipAt oc w c m) (h2 : RefAt or w r m) (hd : ∀ k, oc k → ¬ or k) (ok : Ok m K) (hK : K < 9223372036854775807) (k b p : Int) (hp : -9223372036854775808 ≤ p ∧ p ≤ 9223372036854775807) (s : ByteArray) :
    Calls Try.prog 20 #[.pointer (some ⟨c, 0, none⟩), .pointer (some ⟨r, 0, none⟩), .agg (cellsA k b p s)] w (Done oc or w c r (act m k b p s)) := by
  unfold act
  by_cases e0 : k = 0
  · subst e0
    rw [if_pos rfl]
    exact both_0 h1 h2 hd ok b p s
  rw [if_neg e0]
  by_cases e1 : k = 1
  · subst e1
    rw [if_pos rfl]
    exact both_1 h1 h2 hd ok hK b p s
  rw [if_neg e1]
  by_cases e2 : k = 2
  · subst e2
    rw [if_pos rfl]
    cases ht : there m b with
    | false => exact both_2no h1 h2 hd ok b p ht s
    | true =>
      obtain ⟨i, rfl, hi⟩ := there_of ht
      exact both_2yes h1 h2 hd ok hi p s
  rw [if_neg e2]
  by_cases e3 : k = 3
  · subst e3
    rw [if_pos rfl]
    exact both_3 h1 h2 hd ok b p hp s
  rw [if_neg e3]
  by_cases e4 : k = 4
  · subst e4
    rw [if_pos rfl]
    exact both_4 h1 h2 hd b p s
  rw [if_neg e4]
  exact both_5 h1 h2 hd ok k b p ⟨e0, e1, e2, e3, e4⟩ s
end Go.Proofs.Ytfjnjhlmmdeilaa.Both
