/- How a digest that is an argument stands. -/
import Derived.Test.YtgdhbmdhgejnkaaWireD
import Derived.ProofKit
namespace Go.Proofs.Ytgdhbmdhgejnkaa.RowD
open Go.RowKit Go.Proofs.Ytgdhbmdhgejnkaa.WireD

theorem cellsD : Try.prog.cellsOf 28 = 32 := by kernel_rfl
theorem typesD : Try.prog.cellTypes Try.prog.depth 28 = some (List.replicate 32 5) := by kernel_rfl
def bytesOf (cs : Array Value) : ByteArray := ⟨cs.map fun v => match v with
  | .int _ n => UInt8.ofNat n.toNat
  | _ => 0⟩
theorem open_digest {W : World} {base : Nat} {v : Value} (h : Value.okWide Try.prog W .any base 28 v) : ∃ s : ByteArray, s.size = 32 ∧ v = .agg (dcells s) := by
  simp only [Value.okWide, Try.underlying28] at h
  obtain ⟨cs, rfl, hz, ts, hts, _, hc⟩ := h
  rw [cellsD] at hz
  rw [typesD] at hts
  obtain rfl := Option.some.inj hts
  have hall : ∀ i (hi : i < cs.size), ∃ n : Int, cs[i] = .int .u8 n ∧ IntKind.u8.has n := by
    intro i hi
    obtain ⟨u, hu, ho⟩ := hc i _ (Array.getElem?_eq_getElem hi)
    have : u = 5 := by
      have h2 := List.mem_of_getElem? hu
      exact (List.mem_replicate.1 h2).2
    subst this
    simp only [Cell.okWide, Cell.ok, Try.underlying5] at ho
    split at ho <;> try (rename_i h1 h2; cases h1)
    all_goals try trivial
    all_goals try (exact ho.elim)
    rename_i k n
    exact ⟨n, by rw [h2, ho.1], ho.2⟩
  refine ⟨bytesOf cs, by unfold bytesOf ByteArray.size; simp [hz], ?_⟩
  congr 1
  unfold dcells bytesOf
  apply Array.ext
  · simp
  · intro i h1 h2
    obtain ⟨n, hn, hr⟩ := hall i h1
    simp [hn]
    simp [IntKind.has, IntKind.min, IntKind.max, IntKind.signed, IntKind.bits] at hr
    omega
end Go.Proofs.Ytgdhbmdhgejnkaa.RowD
