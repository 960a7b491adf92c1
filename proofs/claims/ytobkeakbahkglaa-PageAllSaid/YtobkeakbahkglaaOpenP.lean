/- How a slice of pages, and one of truths, stand. -/
import Derived.Test.YtobkeakbahkglaaProg
import Derived.ProofKit
import Derived.WalkKit
import Derived.KernelRfl
import Derived.ChangeSlices
import Derived.Deep.Slices
import Derived.ChangeArms
import Derived.ChangeSame
namespace Go.Proofs.Ytobkeakbahkglaa.OpenP
open Go.RowKit Go.ChangeShapes Go.WideShapes
set_option linter.unusedVariables false
set_option maxRecDepth 100000

section
variable {H : Type} {enc : TypeId × Value → H} {w : World} {base : Nat} {spare : Nat → Bool} {held : Bool}
/-- Each element's cells, and how they are read. -/
theorem slice_elems {t e : TypeId} {v : Value} {d : DataW H} {ps : List MemPlace} {b0 : Nat} (ht : Try.prog.underlying t = some (.slice e)) (hv : Value.okWide Try.prog w .any b0 t v) (h : DataW.Trod enc Try.prog w base spare held t v d ps) :
    ∃ (a : Option Addr) (len cap : Nat), v = .slice a len cap ∧ ∀ i, i < len → ∃ (x : Addr) (cs : List Value) (n : Nat) (y : DataW H × List MemPlace), a = some x ∧ w.cells? base (x.add (i * Try.prog.cellsOf e)) (Try.prog.cellsOf e) = some cs ∧ DataW.trod enc Try.prog w base spare held n e cs = some y := by
  obtain ⟨a, len, cap, rfl⟩ := okWide_slice ht hv
  refine ⟨a, len, cap, rfl, fun i hi => ?_⟩
  obtain ⟨fuel, hf⟩ := h
  rcases DataW.trod_slice ht hf with ⟨hcs, _⟩ | ⟨x, l, c, elems, rest, n, _, hcs, _, _, _, _, hlen, hel, _, _⟩
  · simp [Value.cells] at hcs
    omega
  · simp [Value.cells] at hcs
    obtain ⟨rfl, rfl, rfl⟩ := hcs
    have h1 := hel i hi
    have h2 : elems[i]? = some (elems[i]'(by omega)) := List.getElem?_eq_getElem (by omega)
    rw [h2, Option.bind_eq_some_iff] at h1
    obtain ⟨cs, h3, h4⟩ := h1
    exact ⟨x, cs, n, _, rfl, h3, h4⟩
theorem cell_at {a : Addr} {n : Nat} {cs : List Value} (h : w.cells? base a n = some cs) (j : Nat) (hj : j < n) : w.cell? (a.add j) = cs[j]? := (World.cells?_some h).2.2 j hj
structure Cells (w : World) (x : Addr) (i : Nat) (a : Int × Int × Int × Int × ByteArray) : Prop where
  c0 : w.cell? (x.add (i * 5)) = some (.int .i64 a.1)
  c1 : w.cell? ((x.add (i * 5)).add 1) = some (.int .i64 a.2.1)
  c2 : w.cell? ((x.add (i * 5)).add 2) = some (.int .i64 a.2.2.1)
  c3 : w.cell? ((x.add (i * 5)).add 3) = some (.int .i64 a.2.2.2.1)
  c4 : w.cell? ((x.add (i * 5)).add 4) = some (.string a.2.2.2.2)
/-- A slice of pages. -/
def PagesAt (w : World) (v : Value) (a : Option Addr × Nat × Nat × (Nat → Int × Int × Int × Int × ByteArray)) : Prop :=
  v = .slice a.1 a.2.1 a.2.2.1 ∧ ∀ i, i < a.2.1 → ∃ x, a.1 = some x ∧ Cells w x i (a.2.2.2 i)
theorem open_pages {t : TypeId} {v : Value} {d : DataW H} {ps : List MemPlace} {b0 : Nat} (ht : Try.prog.underlying t = some (.slice 24))
    (hv : Value.okWide Try.prog w .any b0 t v) (h : DataW.Trod enc Try.prog w base spare held t v d ps) : ∃ a, PagesAt w v a := by
  obtain ⟨a, len, cap, rfl, hel⟩ := slice_elems ht hv h
  have hc : Try.prog.cellsOf 24 = 5 := by kernel_rfl
  have hn : ∀ i, ∃ n : Int × Int × Int × Int × ByteArray, i < len → ∃ x, a = some x ∧ Cells w x i n := fun i => by
    by_cases hi : i < len
    · obtain ⟨x, cs, n, y, rfl, h1, h2⟩ := hel i hi
      obtain ⟨xs, m, _, rfl, hl, hlen, hf⟩ := DataW.trod_struct Try.underlying24 h2
      rw [hc] at h1
      obtain ⟨v0, v1, v2, v3, v4, rfl⟩ : ∃ v0 v1 v2 v3 v4, cs = [v0, v1, v2, v3, v4] := by
        rw [hc] at hl
        match cs, hl with
        | [v0, v1, v2, v3, v4], _ => exact ⟨v0, v1, v2, v3, v4, rfl⟩
      obtain ⟨y0, y1, y2, y3, y4, rfl⟩ : ∃ y0 y1 y2 y3 y4, xs = [y0, y1, y2, y3, y4] := by
        have hlen2 : xs.length = 5 := hlen
        match xs, hlen2 with
        | [y0, y1, y2, y3, y4], _ => exact ⟨y0, y1, y2, y3, y4, rfl⟩
      have ck : Try.prog.cellsOf 22 = 1 := by kernel_rfl
      have ci : Try.prog.cellsOf 3 = 1 := by kernel_rfl
      have cS : Try.prog.cellsOf 9 = 1 := by kernel_rfl
      have hf0 : DataW.trod enc Try.prog w base spare held m 22 (([v0, v1, v2, v3, v4].drop 0).take (Try.prog.cellsOf 22)) = some y0 := hf 0 _ rfl
      have hf1 : DataW.trod enc Try.prog w base spare held m 3 (([v0, v1, v2, v3, v4].drop 1).take (Try.prog.cellsOf 3)) = some y1 := hf 1 _ rfl
      have hf2 : DataW.trod enc Try.prog w base spare held m 3 (([v0, v1, v2, v3, v4].drop 2).take (Try.prog.cellsOf 3)) = some y2 := hf 2 _ rfl
      have hf3 : DataW.trod enc Try.prog w base spare held m 3 (([v0, v1, v2, v3, v4].drop 3).take (Try.prog.cellsOf 3)) = some y3 := hf 3 _ rfl
      have hf4 : DataW.trod enc Try.prog w base spare held m 9 (([v0, v1, v2, v3, v4].drop 4).take (Try.prog.cellsOf 9)) = some y4 := hf 4 _ rfl
      rw [ck] at hf0
      rw [ci] at hf1 hf2 hf3
      rw [cS] at hf4
      simp only [List.drop_succ_cons, List.drop_zero, List.take_succ_cons, List.take_zero] at hf0 hf1 hf2 hf3 hf4
      obtain ⟨n0, e0, _⟩ := DataW.trod_int Try.underlying22 hf0
      obtain ⟨n1, e1, _⟩ := DataW.trod_int Try.underlying3 hf1
      obtain ⟨n2, e2, _⟩ := DataW.trod_int Try.underlying3 hf2
      obtain ⟨n3, e3, _⟩ := DataW.trod_int Try.underlying3 hf3
      obtain ⟨n4, e4, _⟩ := DataW.trod_string Try.underlying9 hf4
      simp only [List.cons.injEq, and_true] at e0 e1 e2 e3 e4
      subst e0 e1 e2 e3 e4
      have g := fun j hj => cell_at h1 j hj
      have g0 := g 0 (by omega)
      refine ⟨(n0, n1, n2, n3, n4), fun _ => ⟨x, rfl, ?_, g 1 (by omega), g 2 (by omega), g 3 (by omega), g 4 (by omega)⟩⟩
      have ex : (x.add (i * 5)).add 0 = x.add (i * 5) := by unfold Addr.add; split <;> simp_all
      rw [ex] at g0
      exact g0
    · exact ⟨(0, 0, 0, 0, ByteArray.empty), fun h => absurd h hi⟩
  refine ⟨(a, len, cap, fun i => (hn i).choose), rfl, fun i hi => ?_⟩
  exact (hn i).choose_spec hi
/-- A slice of truths. -/
def BoolsAt (w : World) (v : Value) (a : Option Addr × Nat × Nat × (Nat → Bool)) : Prop :=
  v = .slice a.1 a.2.1 a.2.2.1 ∧ ∀ i, i < a.2.1 → ∃ x, a.1 = some x ∧ w.cell? (x.add i) = some (.bool (a.2.2.2 i))
theorem open_bools {t e : TypeId} {v : Value} {d : DataW H} {ps : List MemPlace} {b0 : Nat} (ht : Try.prog.underlying t = some (.slice e)) (he : Try.prog.underlying e = some .bool) (hc : Try.prog.cellsOf e = 1)
    (hv : Value.okWide Try.prog w .any b0 t v) (h : DataW.Trod enc Try.prog w base spare held t v d ps) : ∃ a, BoolsAt w v a := by
  obtain ⟨a, len, cap, rfl, hel⟩ := slice_elems ht hv h
  have hn : ∀ i, ∃ n : Bool, i < len → ∃ x, a = some x ∧ w.cell? (x.add i) = some (.bool n) := fun i => by
    by_cases hi : i < len
    · obtain ⟨x, cs, n, y, rfl, h1, h2⟩ := hel i hi
      obtain ⟨q, rfl, _⟩ := DataW.trod_bool he h2
      rw [hc, Nat.mul_one] at h1
      exact ⟨q, fun _ => ⟨x, rfl, cell_of_cells?_one h1⟩⟩
    · exact ⟨false, fun h => absurd h hi⟩
  refine ⟨(a, len, cap, fun i => (hn i).choose), rfl, fun i hi => ?_⟩
  exact (hn i).choose_spec hi
end
end Go.Proofs.Ytobkeakbahkglaa.OpenP
