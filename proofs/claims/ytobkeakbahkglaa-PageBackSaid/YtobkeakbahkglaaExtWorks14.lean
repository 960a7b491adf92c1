/- cenotaphlaw14.works as a plain function. -/
import Derived.Test.YtobkeakbahkglaaPageX
namespace Go.Proofs.Ytobkeakbahkglaa
open Go.RowKit
def cenotaphlaw14_works.f : Option Bool := some true
theorem cenotaphlaw14_works.calls (r : Bool) (w : World) (h : cenotaphlaw14_works.f = some r) :
    Calls Try.prog 8 #[] w fun e w' => e = .returned (.bool r) ∧ Below w.heap.size w w' := by
  obtain rfl := Option.some.inj h
  exact PageX.works_any w
end Go.Proofs.Ytobkeakbahkglaa
