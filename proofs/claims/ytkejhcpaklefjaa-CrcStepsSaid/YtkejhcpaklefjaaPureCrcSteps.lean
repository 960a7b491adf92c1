/- All bytes, stepped one by one, are the check: the plain law. -/
import Derived.Test.YtkejhcpaklefjaaCrcP
import Derived.Test.YtkejhcpaklefjaaFn2
namespace Go.Proofs.Ytkejhcpaklefjaa.Pure
open Go.RowKit Go.Proofs.Ytkejhcpaklefjaa.Fn Go.Proofs.YtkejhcpaklefjaaW.PrintWords Go.Proofs.YtkejhcpaklefjaaW.PrintLast Go.Proofs.Ytkejhcpaklefjaa.CrcP Go.Proofs.Ytkejhcpaklefjaa.CrcM

theorem steps_l0 (s : ByteArray) (hz : s.size ≤ 9223372036854775807) : ∀ (l pre : List UInt8) (c k : Nat), L s = pre ++ l → c < 2 ^ 32 → l.length < k → notN (fold c l) = ofL (L s) →
    cenotaphlaw01_CrcSteps.l0 k s true (c : Int) (pre.length : Int) = some true
  | [], pre, c, k, hs, hc, hk, he => by
    obtain ⟨k, rfl⟩ : ∃ m, k = m + 1 := ⟨k - 1, by omega⟩
    simp only [cenotaphlaw01_CrcSteps.l0]
    have : s.size = pre.length := by rw [size_L, hs]; simp
    rw [if_neg (by omega), if_pos trivial, of_eq s hz, ← he]
    have e : (4294967295 - (c : Int)) % 4294967296 = (notN c : Int) := by unfold notN; omega
    rw [e]
    simp [fold]
  | b :: l, pre, c, k, hs, hc, hk, he => by
    obtain ⟨k, rfl⟩ : ∃ m, k = m + 1 := ⟨k - 1, by omega⟩
    have hsz : pre.length < s.size := by rw [size_L, hs]; simp
    have e1 : wrap64 ((pre.length : Int) + 1) = (((pre ++ [b]).length : Nat) : Int) := by rw [w64 (by omega) (by omega)]; simp
    simp only [List.length_cons] at hk
    simp only [cenotaphlaw01_CrcSteps.l0]
    rw [if_pos (by omega), if_pos (by omega), bt_get hs rfl, step_eq c b.toNat hc b.toNat_lt, e1]
    exact steps_l0 s hz l (pre ++ [b]) (bstep c b.toNat) k (by rw [hs]; simp) (CrcM.bstep_lt hc b.toNat_lt) (by omega) he
theorem CrcSteps : cenotaphlaw01_CrcSteps.Pure := by
  intro s hs
  have hz : s.size ≤ 9223372036854775807 := by omega
  refine ⟨s.size + 1, ?_⟩
  unfold cenotaphlaw01_CrcSteps.f
  simp only [cenotaphlaw01_works.f, Option.bind_some, if_true]
  by_cases h : (s.size : Int) > 600
  · rw [if_pos h]
  · rw [if_neg h]
    exact steps_l0 s hz (L s) [] (notN 0) (s.size + 1) rfl (notN_lt 0) (by rw [← size_L]; omega) rfl
end Go.Proofs.Ytkejhcpaklefjaa.Pure
