/- How slices that are arguments stand. -/
import Derived.Test.YtfjnjhlmmdeilaaProg
import Derived.ProofKit
import Derived.WalkKit
import Derived.KernelRfl
import Derived.ChangeSlices
import Derived.Deep.Slices
namespace Go.Proofs.Ytfjnjhlmmdeilaa.Open
open Go.RowKit Go.ChangeShapes Go.WideShapes
set_option linter.unusedVariables false

section
variable {H : Type} {enc : TypeId × Value → H} {w : World} {base : Nat} {spare : Nat → Bool} {held : Bool}
/-- Each element's cells, and how they are read. -/
theorem slice_elems {t e : TypeId} {v : Value} {d : DataW H} {ps : List MemPlace} {b0 : Nat} (ht : Try.prog.underlying t = some (.slice e)) (hv : Value.okWide Try.prog w .any b0 t v) (h : DataW.Trod enc Try.prog w base spare held t v d ps) :
    ∃ (a : Option Addr) (len cap : Nat), v = .slice a len cap ∧ ∀ i, i < len → ∃ (x : Addr) (cs : List Value) (n : Nat) (y : DataW H × List MemPlace), a = some x ∧ w.cells? base (x.add (i * Try.prog.cellsOf e)) (Try.prog.cellsOf e) = some cs ∧ DataW.trod enc Try.prog w base spare held n e cs = some y := by
  obtain ⟨a, len, cap, rfl⟩ := okWide_slice ht hv
  refine ⟨a, len, cap, rfl, fun i hi => ?_⟩
  obtain ⟨fuel, hf⟩ := h
  rcases DataW.trod_slice ht hf with ⟨hcs, _⟩ | ⟨x, l, c, elems, rest, n, _, hcs, _, _, _, _, hlen, hel, _, _⟩
  · simp [Value.cells] at hcs
    omega
  · simp [Value.cells] at hcs
    obtain ⟨rfl, rfl, rfl⟩ := hcs
    have h1 := hel i hi
    have h2 : elems[i]? = some (elems[i]'(by omega)) := List.getElem?_eq_getElem (by omega)
    rw [h2, Option.bind_eq_some_iff] at h1
    obtain ⟨cs, h3, h4⟩ := h1
    exact ⟨x, cs, n, _, rfl, h3, h4⟩
theorem cell_at {a : Addr} {n : Nat} {cs : List Value} (h : w.cells? base a n = some cs) (j : Nat) (hj : j < n) : w.cell? (a.add j) = cs[j]? := (World.cells?_some h).2.2 j hj
/-- A slice of numbers. -/
def IntsAt (w : World) (v : Value) (a : Option Addr × Nat × Nat × (Nat → Int)) : Prop :=
  v = .slice a.1 a.2.1 a.2.2.1 ∧ ∀ i, i < a.2.1 → ∃ x, a.1 = some x ∧ w.cell? (x.add i) = some (.int .i64 (a.2.2.2 i)) ∧ (x.add i).block < w.heap.size
theorem open_ints {t e : TypeId} {v : Value} {d : DataW H} {ps : List MemPlace} {b0 : Nat} (ht : Try.prog.underlying t = some (.slice e)) (he : Try.prog.underlying e = some (.int .i64)) (hc : Try.prog.cellsOf e = 1)
    (hv : Value.okWide Try.prog w .any b0 t v) (h : DataW.Trod enc Try.prog w base spare held t v d ps) : ∃ a, IntsAt w v a := by
  obtain ⟨a, len, cap, rfl, hel⟩ := slice_elems ht hv h
  have hn : ∀ i, ∃ n : Int, i < len → ∃ x, a = some x ∧ w.cell? (x.add i) = some (.int .i64 n) := fun i => by
    by_cases hi : i < len
    · obtain ⟨x, cs, n, y, rfl, h1, h2⟩ := hel i hi
      obtain ⟨q, rfl, _⟩ := DataW.trod_int he h2
      rw [hc, Nat.mul_one] at h1
      exact ⟨q, fun _ => ⟨x, rfl, cell_of_cells?_one h1⟩⟩
    · exact ⟨0, fun h => absurd h hi⟩
  refine ⟨(a, len, cap, fun i => (hn i).choose), rfl, fun i hi => ?_⟩
  obtain ⟨x, hx, hcell⟩ := (hn i).choose_spec hi
  exact ⟨x, hx, hcell, block_lt_of_cell hcell⟩
/-- A slice of texts. -/
def StrsAt (w : World) (v : Value) (a : Option Addr × Nat × Nat × (Nat → ByteArray)) : Prop :=
  v = .slice a.1 a.2.1 a.2.2.1 ∧ ∀ i, i < a.2.1 → ∃ x, a.1 = some x ∧ w.cell? (x.add i) = some (.string (a.2.2.2 i)) ∧ (x.add i).block < w.heap.size
theorem open_strs {t e : TypeId} {v : Value} {d : DataW H} {ps : List MemPlace} {b0 : Nat} (ht : Try.prog.underlying t = some (.slice e)) (he : Try.prog.underlying e = some .string) (hc : Try.prog.cellsOf e = 1)
    (hv : Value.okWide Try.prog w .any b0 t v) (h : DataW.Trod enc Try.prog w base spare held t v d ps) : ∃ a, StrsAt w v a := by
  obtain ⟨a, len, cap, rfl, hel⟩ := slice_elems ht hv h
  have hn : ∀ i, ∃ n : ByteArray, i < len → ∃ x, a = some x ∧ w.cell? (x.add i) = some (.string n) := fun i => by
    by_cases hi : i < len
    · obtain ⟨x, cs, n, y, rfl, h1, h2⟩ := hel i hi
      obtain ⟨q, rfl, _⟩ := DataW.trod_string he h2
      rw [hc, Nat.mul_one] at h1
      exact ⟨q, fun _ => ⟨x, rfl, cell_of_cells?_one h1⟩⟩
    · exact ⟨ByteArray.empty, fun h => absurd h hi⟩
  refine ⟨(a, len, cap, fun i => (hn i).choose), rfl, fun i hi => ?_⟩
  obtain ⟨x, hx, hcell⟩ := (hn i).choose_spec hi
  exact ⟨x, hx, hcell, block_lt_of_cell hcell⟩
end
end Go.Proofs.Ytfjnjhlmmdeilaa.Open
