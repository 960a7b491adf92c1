/- With its own check behind it any text has one and the same check: the plain law. -/
import Derived.Test.YtkejhcpaklefjaaCrcP
import Derived.Test.YtkejhcpaklefjaaFn2
namespace Go.Proofs.Ytkejhcpaklefjaa.Pure
open Go.RowKit Go.Proofs.Ytkejhcpaklefjaa.Fn Go.Proofs.YtkejhcpaklefjaaW.PrintWords Go.Proofs.YtkejhcpaklefjaaW.PrintLast Go.Proofs.Ytkejhcpaklefjaa.CrcP Go.Proofs.Ytkejhcpaklefjaa.CrcM

theorem CrcBehind : cenotaphlaw01_CrcBehind.Pure := by
  intro s hs
  have hz : s.size ≤ 9223372036854775807 := by omega
  unfold cenotaphlaw01_CrcBehind.f
  simp only [cenotaphlaw01_works.f, Option.bind_some, if_true]
  by_cases h : (s.size : Int) > 600
  · rw [if_pos h]
  · rw [if_neg h, of_eq s hz]
    simp only [Option.bind_some]
    rw [le4_str]
    have h4 : (B (le4 (ofL (L s)))).size = 4 := by rw [B_size]; rfl
    rw [if_pos (by omega), of_eq _ (by rw [ByteArray.size_append]; omega), L_append, L_B, behind]
    rfl
end Go.Proofs.Ytkejhcpaklefjaa.Pure
