/- crc.More as a plain function, in the form that the printed walks take. -/
import Derived.Test.YtobkeakbahkglaaCrcA
namespace Go.Proofs.Ytobkeakbahkglaa
open Go.RowKit
def crc_More.f (a0 : Int) (a1 : ByteArray) : Option Int := if a1.size ≤ 9223372036854775807 then some (CrcA.goMore a0 a1) else none
theorem crc_More.calls (a0 : Int) (a1 : ByteArray) (r : Int) (w : World) (h : crc_More.f a0 a1 = some r) :
    Calls Try.prog 52 #[.int .u32 a0, .string a1] w fun e w' => e = .returned (.int .u32 r) ∧ Below w.heap.size w w' := by
  unfold crc_More.f at h
  by_cases hs : a1.size ≤ 9223372036854775807
  · rw [if_pos hs] at h
    obtain rfl := Option.some.inj h
    exact CrcA.more_any a0 a1 w hs
  · rw [if_neg hs] at h
    cases h
end Go.Proofs.Ytobkeakbahkglaa
