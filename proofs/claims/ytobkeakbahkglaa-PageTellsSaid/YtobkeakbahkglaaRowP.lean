/- How a page that is an argument stands. -/
import Derived.Test.YtobkeakbahkglaaPageG
import Derived.ProofKit
namespace Go.Proofs.Ytobkeakbahkglaa.RowP
open Go.RowKit Go.Proofs.Ytobkeakbahkglaa.PageG

abbrev Pag := Int × Int × Int × Int × ByteArray
def PageArg (v : Value) (a : Pag) : Prop := v = .agg (pcells a.1 a.2.1 a.2.2.1 a.2.2.2.1 a.2.2.2.2)
theorem cellsP : Try.prog.cellsOf 24 = 5 := by kernel_rfl
theorem typesP : Try.prog.cellTypes Try.prog.depth 24 = some [22, 3, 3, 3, 9] := by kernel_rfl
theorem cell_int {W : World} {base : Nat} {u : TypeId} {v : Value} (hu : Try.prog.underlying u = some (.int .i64)) (h : Cell.okWide Try.prog W .any base u v) : ∃ n : Int, v = .int .i64 n := by
  unfold Cell.okWide at h
  rw [hu] at h
  cases v <;> simp [Cell.ok, hu] at h
  obtain ⟨rfl, _⟩ := h
  exact ⟨_, rfl⟩
theorem cell_str {W : World} {base : Nat} {u : TypeId} {v : Value} (hu : Try.prog.underlying u = some .string) (h : Cell.okWide Try.prog W .any base u v) : ∃ s : ByteArray, v = .string s := by
  unfold Cell.okWide at h
  rw [hu] at h
  cases v <;> simp [Cell.ok, hu] at h
  exact ⟨_, rfl⟩
set_option maxRecDepth 100000 in
theorem open_page {W : World} {base : Nat} {v : Value} (h : Value.okWide Try.prog W .any base 24 v) : ∃ a : Pag, PageArg v a := by
  simp only [Value.okWide, Try.underlying24] at h
  obtain ⟨cs, rfl, hz, ts, hts, _, hc⟩ := h
  rw [cellsP] at hz
  rw [typesP] at hts
  obtain rfl := Option.some.inj hts
  have get : ∀ i (hi : i < cs.size), ∃ u, [22, 3, 3, 3, 9][i]? = some u ∧ Cell.okWide Try.prog W .any base u cs[i] := by
    intro i hi
    obtain ⟨u, hu, ho⟩ := hc i _ (Array.getElem?_eq_getElem hi)
    refine ⟨u, ?_, ho⟩
    simpa [Nat.mod_eq_of_lt (show i < 5 by omega)] using hu
  obtain ⟨u0, e0, o0⟩ := get 0 (by omega)
  obtain ⟨u1, e1, o1⟩ := get 1 (by omega)
  obtain ⟨u2, e2, o2⟩ := get 2 (by omega)
  obtain ⟨u3, e3, o3⟩ := get 3 (by omega)
  obtain ⟨u4, e4, o4⟩ := get 4 (by omega)
  obtain rfl := Option.some.inj e0
  obtain rfl := Option.some.inj e1
  obtain rfl := Option.some.inj e2
  obtain rfl := Option.some.inj e3
  obtain rfl := Option.some.inj e4
  obtain ⟨n0, h0⟩ := cell_int Try.underlying22 o0
  obtain ⟨n1, h1⟩ := cell_int Try.underlying3 o1
  obtain ⟨n2, h2⟩ := cell_int Try.underlying3 o2
  obtain ⟨n3, h3⟩ := cell_int Try.underlying3 o3
  obtain ⟨s4, h4⟩ := cell_str Try.underlying9 o4
  refine ⟨(n0, n1, n2, n3, s4), ?_⟩
  unfold PageArg pcells
  congr 1
  apply Array.ext
  · simpa using hz
  · intro i hi1 hi2
    have : i = 0 ∨ i = 1 ∨ i = 2 ∨ i = 3 ∨ i = 4 := by omega
    rcases this with rfl | rfl | rfl | rfl | rfl
    · exact h0
    · exact h1
    · exact h2
    · exact h3
    · exact h4
end Go.Proofs.Ytobkeakbahkglaa.RowP
