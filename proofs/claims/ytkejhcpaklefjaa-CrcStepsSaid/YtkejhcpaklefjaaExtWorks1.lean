/- cenotaphlaw01.works as a plain function. -/
import Derived.Test.YtkejhcpaklefjaaCrcW
namespace Go.Proofs.Ytkejhcpaklefjaa
open Go.RowKit
def cenotaphlaw01_works.f : Option Bool := some true
theorem cenotaphlaw01_works.calls (r : Bool) (w : World) (h : cenotaphlaw01_works.f = some r) :
    Calls Try.prog 10 #[] w fun e w' => e = .returned (.bool r) ∧ Below w.heap.size w w' := by
  obtain rfl := Option.some.inj h
  exact CrcW.works_any w
end Go.Proofs.Ytkejhcpaklefjaa
