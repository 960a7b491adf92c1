/- The bytes of any number, and the number that any bytes begin with, are the reference's: the plain law. -/
import Derived.Test.YtgdhbmdhgejnkaaWireP
import Derived.Test.YtgdhbmdhgejnkaaFn7
namespace Go.Proofs.Ytgdhbmdhgejnkaa.Pure
open Go.RowKit Go.Proofs.Ytgdhbmdhgejnkaa.Fn Go.Proofs.YtgdhbmdhgejnkaaW.PrintWords Go.Proofs.YtgdhbmdhgejnkaaW.PrintLast Go.Proofs.Ytgdhbmdhgejnkaa.WireP

theorem WireNums : cenotaphlaw04_WireNums.Pure := by
  intro n s _ hs
  refine Ev.rounds (Ev.bind (f := fun k t170 => if t170 = true then (if (s.size : Int) > 300 then (some t170) else ((wire_GetNum.f k s).bind fun bt171 => ((cenotaphref04_GetNum.f k s).bind fun bt174 => ((wire_Num.f k n).bind fun t177 => ((cenotaphref04_Num.f k n).bind fun t178 => (if t177.toList = t178.toList then (if bt171.1 = bt174.1 then (if bt171.2.1.toList = bt174.2.1.toList then (some (bt171.2.2 == bt174.2.2)) else (some false)) else (some false)) else (some false))))))) else (some false)) (g := fun _ => cenotaphlaw04_works.f) (Ev.now true) ?_)
  by_cases h : (s.size : Int) > 300
  · exact Ev.congr (fun k => by rw [if_pos rfl, if_pos h]) (Ev.now true)
  · refine Ev.congr (fun k => by rw [if_pos rfl, if_neg h]) (Ev.bind (getnum_ev s (by omega)) (Ev.bind (refgetnum_ev s (by omega)) (Ev.bind (num_ev n) (Ev.bind (refnum_ev n) (Ev.congr (fun k => ?_) (Ev.now true))))))
    rw [if_pos rfl, if_pos rfl, if_pos rfl]
    exact congrArg some (beq_self_eq_true _)
end Go.Proofs.Ytgdhbmdhgejnkaa.Pure
