/- How a slice of acts stands, and that it is not too long. -/
import Derived.Test.YtfjnjhlmmdeilaaOpenA
namespace Go.Proofs.Ytfjnjhlmmdeilaa.OpenB
open Go.RowKit Go.ChangeShapes Go.WideShapes
set_option linter.unusedVariables false
section
variable {H : Type} {enc : TypeId × Value → H} {w : World} {base : Nat} {spare : Nat → Bool} {held : Bool}
def ActsIn (w : World) (v : Value) (a : Option Addr × Nat × Nat × (Nat → Int × Int × Int × ByteArray)) : Prop := OpenA.ActsAt w v a ∧ a.2.1 ≤ 140737488351232
theorem open_acts {t : TypeId} {v : Value} {d : DataW H} {ps : List MemPlace} {b0 : Nat} (hs : ∀ el sp, d = .slice el sp → (el.length + sp.length) * Try.prog.bytesOf 44 ≤ reachBytes) (ht : Try.prog.underlying t = some (.slice 44))
    (hv : Value.okWide Try.prog w .any b0 t v) (h : DataW.Trod enc Try.prog w base spare held t v d ps) : ∃ a, ActsIn w v a := by
  obtain ⟨a, ha⟩ := OpenA.open_acts ht hv h
  refine ⟨a, ha, ?_⟩
  obtain ⟨rfl, _⟩ := ha
  obtain ⟨fuel, hf⟩ := h
  have hb : Try.prog.bytesOf 44 = 40 := by kernel_rfl
  rcases DataW.trod_slice ht hf with ⟨hcs, _⟩ | ⟨x, l, c, elems, rest, n, _, hcs, hd, _, _, _, h3, _⟩
  · simp [Value.cells] at hcs
    omega
  · simp [Value.cells] at hcs
    have := hs _ _ (congrArg Prod.fst hd)
    rw [hb, List.length_map, List.length_map] at this
    simp only [reachBytes] at this
    omega
end
end Go.Proofs.Ytfjnjhlmmdeilaa.OpenB
