/- cenotaphlaw04.works as a plain function. -/
import Derived.Test.YtgdhbmdhgejnkaaWireW
namespace Go.Proofs.Ytgdhbmdhgejnkaa
open Go.RowKit
def cenotaphlaw04_works.f : Option Bool := some true
theorem cenotaphlaw04_works.calls (r : Bool) (w : World) (h : cenotaphlaw04_works.f = some r) :
    Calls Try.prog 11 #[] w fun e w' => e = .returned (.bool r) ∧ Below w.heap.size w w' := by
  obtain rfl := Option.some.inj h
  exact WireW.works_any w
end Go.Proofs.Ytgdhbmdhgejnkaa
