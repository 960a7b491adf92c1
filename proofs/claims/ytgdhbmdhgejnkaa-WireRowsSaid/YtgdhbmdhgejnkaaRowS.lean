/- How a row of strings that is an argument stands; the walk of WireRows over it. -/
import Derived.Test.YtgdhbmdhgejnkaaPureWireRows
import Derived.ProofKit
import Derived.SliceStrings
namespace Go.Proofs.Ytgdhbmdhgejnkaa.RowS
open Go.ChangeShapes Go.WideShapes Go.ChangeAt Go.RowKit Go.Proofs.Ytgdhbmdhgejnkaa.Fn Go.Proofs.YtgdhbmdhgejnkaaW.PrintWords Go.Proofs.YtgdhbmdhgejnkaaW.PrintLast

def Stands (W : World) (v : Value) (a : List ByteArray × Option Addr × Nat) : Prop := v = .slice a.2.1 a.1.length a.2.2 ∧ Kd.C Kd.string W a.2.1 a.1.length a.1 ∧ a.1.length ≤ a.2.2
theorem open_ss {H : Type} {enc : TypeId × Value → H} {W : World} {base : Nat} {v : Value} {d : DataW H} {ps : List MemPlace} (h : Value.okWide Try.prog W .any base 41 v) (ht : DataW.Trod enc Try.prog W 0 (fun _ => true) true 41 v d ps) :
    ∃ a, Stands W v a := by
  obtain ⟨fuel, hf⟩ := ht
  have hone : ∀ u, v.cells.toList = [u] → ∀ A l c, u = Value.slice A l c → v = u := by
    intro u hu A l c e
    subst e
    cases v <;> simp [Value.cells] at hu <;> try exact hu
    · obtain ⟨rfl, rfl, rfl⟩ := hu; rfl
    all_goals
      simp only [Value.okWide, Try.underlying41, Cell.okWide, Cell.ok] at h
      try exact h.elim
  rcases open_strings Try.underlying41 Try.underlying9 (by kernel_rfl) hf with ⟨hc, _⟩ | ⟨a, len, cap, ss, hc, _, hl, hm, hlen, _, hcell, _⟩
  · have := hone _ hc _ _ _ rfl
    subst this
    exact ⟨([], none, 0), rfl, ⟨rfl, by simp, fun h => by simp at h⟩, Nat.le_refl _⟩
  · have := hone _ hc _ _ _ rfl
    subst this
    have hsl : ss.length = cap := by simpa using hlen
    have htl : (ss.take len).length = len := by rw [List.length_take]; omega
    refine ⟨(ss.take len, some a, cap), by dsimp only; rw [htl], ⟨rfl, by dsimp only; rw [htl]; unfold maxLen at hm; omega, fun _ => ⟨a, rfl, fun j p hj => ⟨[.string p], rfl, rfl, fun i u hu => ?_⟩⟩⟩, by dsimp only; rw [htl]; exact hl⟩
    have hj2 : j < len := by
      have := (List.getElem?_eq_some_iff.1 hj).1
      dsimp only at this
      omega
    have hi : i = 0 := by
      have := (List.getElem?_eq_some_iff.1 hu).1
      simp at this
      exact this
    subst hi
    simp at hu
    subst hu
    have h1 := hcell j (by omega)
    have h2 : (ss.take len)[j]? = some p := hj
    rw [List.getElem?_take_of_lt hj2] at h2
    rw [List.getD_eq_getElem?_getD, h2] at h1
    rw [show j * Kd.string.sz + 0 = j from Nat.mul_one j]
    simpa using h1
theorem rows_row {v : Value} {W : World} (a : List ByteArray × Option Addr × Nat) (h : Stands W v a) :
    Calls Try.prog 8 #[v] W fun e w' => e = .returned (.bool true) ∧ Below W.heap.size W w' := by
  obtain ⟨rfl, hr, hc⟩ := h
  obtain ⟨k, hk⟩ := Pure.WireRows a.1
  exact cenotaphlaw04_WireRows.calls k a.2.1 a.2.2 a.1 true W hr hc hk
end Go.Proofs.Ytgdhbmdhgejnkaa.RowS
