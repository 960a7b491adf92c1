/- page.Put and page.Get as plain functions, in the form that the printed walks take. -/
import Derived.Test.YtobkeakbahkglaaPageG
namespace Go.Proofs.Ytobkeakbahkglaa
open Go.RowKit Go.Proofs.Ytobkeakbahkglaa.PageM
def page_Put.f (a0_0 : Int) (a0_1 : Int) (a0_2 : Int) (a0_3 : Int) (a0_4 : ByteArray) : Option ByteArray := some (put a0_0 a0_1 a0_2 a0_3 a0_4)
theorem page_Put.calls (a0_0 : Int) (a0_1 : Int) (a0_2 : Int) (a0_3 : Int) (a0_4 : ByteArray) (r : ByteArray) (w : World) (h : page_Put.f a0_0 a0_1 a0_2 a0_3 a0_4 = some r) :
    Calls Try.prog 14 #[.agg #[.int .i64 a0_0, .int .i64 a0_1, .int .i64 a0_2, .int .i64 a0_3, .string a0_4]] w fun e w' => e = .returned (.string r) ∧ Below w.heap.size w w' := by
  obtain rfl := Option.some.inj h
  exact PageP.put_any a0_0 a0_1 a0_2 a0_3 a0_4 w
def page_Get.f (a0 : ByteArray) : Option (Int × Int × Int × Int × ByteArray × Bool) := if a0.size ≤ 9223372036854775807 then some (got a0) else none
theorem page_Get.calls (a0 : ByteArray) (r1 : Int) (r2 : Int) (r3 : Int) (r4 : Int) (r5 : ByteArray) (r6 : Bool) (w : World) (h : page_Get.f a0 = some (r1, r2, r3, r4, r5, r6)) :
    Calls Try.prog 9 #[.string a0] w fun e w' => e = .returned (.tuple #[.agg #[.int .i64 r1, .int .i64 r2, .int .i64 r3, .int .i64 r4, .string r5], .bool r6]) ∧ Below w.heap.size w w' := by
  unfold page_Get.f at h
  by_cases hs : a0.size ≤ 9223372036854775807
  · rw [if_pos hs] at h
    exact PageG.get_any a0 hs w _ _ _ _ _ _ (Option.some.inj h)
  · rw [if_neg hs] at h
    cases h
end Go.Proofs.Ytobkeakbahkglaa
