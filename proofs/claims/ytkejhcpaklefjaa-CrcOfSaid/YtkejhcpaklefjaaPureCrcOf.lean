/- The check of any bytes is what the document says: the plain law. -/
import Derived.Test.YtkejhcpaklefjaaCrcP
import Derived.Test.YtkejhcpaklefjaaFn2
namespace Go.Proofs.Ytkejhcpaklefjaa.Pure
open Go.RowKit Go.Proofs.Ytkejhcpaklefjaa.Fn Go.Proofs.YtkejhcpaklefjaaW.PrintWords Go.Proofs.YtkejhcpaklefjaaW.PrintLast Go.Proofs.Ytkejhcpaklefjaa.CrcP Go.Proofs.Ytkejhcpaklefjaa.CrcM

theorem CrcOf : cenotaphlaw01_CrcOf.Pure := by
  intro s a x hs ha hx
  obtain ⟨c, rfl, hc⟩ := wf_u32 ha
  obtain ⟨b, rfl, hb⟩ := wf_u8 hx
  have hz : s.size ≤ 9223372036854775807 := by omega
  refine Ev.rounds (Ev.congr (f := fun k => if (s.size : Int) > 600 then some true else ((cenotaphref01_Of.f k s).bind fun t106 => (if (ofL (L s) : Int) = t106 then ((cenotaphref01_More.f k (c : Int) s).bind fun t108 => (if (more c (L s) : Int) = t108 then ((cenotaphref01_Step.f k (c : Int) (b : Int)).bind fun t110 => (some ((bstep c b : Int) == t110))) else (some false))) else (some false)))) (fun k => ?_) ?_)
  · unfold cenotaphlaw01_CrcOf.f
    rw [of_eq s hz, more_eq c hc s hz, step_eq c b hc hb]
    rfl
  · by_cases h : (s.size : Int) > 600
    · exact Ev.congr (fun k => if_pos h) (Ev.now true)
    · refine Ev.congr (fun k => if_neg h) (Ev.bind (refof_ev s hz) (Ev.congr (fun k => if_pos rfl) (Ev.bind (refmore_ev c hc s hz) (Ev.congr (fun k => if_pos rfl) ?_))))
      refine ⟨9, fun k hk => ?_⟩
      show (cenotaphref01_Step.f k (c : Int) (b : Int)).bind _ = _
      rw [refstep_eq c b k hc hb (by omega)]
      simp
end Go.Proofs.Ytkejhcpaklefjaa.Pure
