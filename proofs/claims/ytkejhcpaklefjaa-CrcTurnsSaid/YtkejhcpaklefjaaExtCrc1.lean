/- crc.Step, crc.Text, crc.Number and cenotaphref01.Text as plain functions, in the form that the printed walks take. -/
import Derived.Test.YtkejhcpaklefjaaCrcN
import Derived.Test.YtkejhcpaklefjaaCrcR
import Derived.Test.YtkejhcpaklefjaaExtCrc
namespace Go.Proofs.Ytkejhcpaklefjaa
open Go.RowKit
def crc_Step.f (a0 a1 : Int) : Option Int := some (CrcA.goStep a0 a1)
theorem crc_Step.calls (a0 a1 r : Int) (w : World) (h : crc_Step.f a0 a1 = some r) :
    Calls Try.prog 15 #[.int .u32 a0, .int .u8 a1] w fun e w' => e = .returned (.int .u32 r) ∧ Below w.heap.size w w' := by
  unfold crc_Step.f at h
  obtain rfl := Option.some.inj h
  exact CrcS.step_any a0 a1 w
def crc_Text.f (a0 : Int) : Option ByteArray := if 0 ≤ a0 ∧ a0 < 4294967296 then some ⟨(CrcS.text8 a0.toNat).toArray⟩ else none
theorem crc_Text.calls (a0 : Int) (r : ByteArray) (w : World) (h : crc_Text.f a0 = some r) :
    Calls Try.prog 19 #[.int .u32 a0] w fun e w' => e = .returned (.string r) ∧ Below w.heap.size w w' := by
  unfold crc_Text.f at h
  by_cases hs : 0 ≤ a0 ∧ a0 < 4294967296
  · rw [if_pos hs] at h
    obtain rfl := Option.some.inj h
    have := CrcS.text_any a0.toNat (by omega) w
    rwa [Int.toNat_of_nonneg hs.1] at this
  · rw [if_neg hs] at h
    cases h
def cenotaphref01_Text.f (a0 : Int) : Option ByteArray := crc_Text.f a0
theorem cenotaphref01_Text.calls (a0 : Int) (r : ByteArray) (w : World) (h : cenotaphref01_Text.f a0 = some r) :
    Calls Try.prog 20 #[.int .u32 a0] w fun e w' => e = .returned (.string r) ∧ Below w.heap.size w w' := by
  unfold cenotaphref01_Text.f crc_Text.f at h
  by_cases hs : 0 ≤ a0 ∧ a0 < 4294967296
  · rw [if_pos hs] at h
    obtain rfl := Option.some.inj h
    have := CrcR.reftext_any a0.toNat (by omega) w
    rwa [Int.toNat_of_nonneg hs.1] at this
  · rw [if_neg hs] at h
    cases h
def crc_Number.f (a0 : ByteArray) : Option (Int × Bool) := some (((CrcN.numN a0).getD 0 : Nat), (CrcN.numN a0).isSome)
theorem crc_Number.calls (a0 : ByteArray) (r1 : Int) (r2 : Bool) (w : World) (h : crc_Number.f a0 = some (r1, r2)) :
    Calls Try.prog 17 #[.string a0] w fun e w' => e = .returned (.tuple #[.int .u32 r1, .bool r2]) ∧ Below w.heap.size w w' := by
  unfold crc_Number.f at h
  simp only [Option.some.injEq, Prod.mk.injEq] at h
  obtain ⟨rfl, rfl⟩ := h
  exact CrcN.number_any a0 w
end Go.Proofs.Ytkejhcpaklefjaa
