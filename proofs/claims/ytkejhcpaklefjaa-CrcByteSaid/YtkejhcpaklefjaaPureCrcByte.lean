/- One byte that is another one is always told: the plain law. -/
import Derived.Test.YtkejhcpaklefjaaCrcP
import Derived.Test.YtkejhcpaklefjaaFn2
namespace Go.Proofs.Ytkejhcpaklefjaa.Pure
open Go.RowKit Go.Proofs.Ytkejhcpaklefjaa.Fn Go.Proofs.YtkejhcpaklefjaaW.PrintWords Go.Proofs.YtkejhcpaklefjaaW.PrintLast Go.Proofs.Ytkejhcpaklefjaa.CrcP Go.Proofs.Ytkejhcpaklefjaa.CrcM

theorem CrcByte : cenotaphlaw01_CrcByte.Pure := by
  intro p a1 a2 q hp h1 h2 hq
  obtain ⟨x, rfl, hx⟩ := wf_u8 h1
  obtain ⟨y, rfl, hy⟩ := wf_u8 h2
  have hout : cenotaphlaw01_CrcByte.j0 1 p (x : Int) (y : Int) q true true = some true := rfl
  refine ⟨1, ?_⟩
  unfold cenotaphlaw01_CrcByte.f
  simp only [cenotaphlaw01_works.f, Option.bind_some, if_true]
  by_cases hp6 : (p.size : Int) > 600
  · rw [if_pos hp6, hout]
  · rw [if_neg hp6]
    by_cases hq6 : (q.size : Int) > 600
    · rw [if_pos hq6, hout]
    · rw [if_neg hq6]
      by_cases e : (x : Int) = (y : Int)
      · rw [beq_iff_eq.2 e, hout]
      · rw [beq_eq_false_iff_ne.2 e]
        have s1 : (strOfNums [(x : Int)]).size = 1 := rfl
        have s2 : (strOfNums [(y : Int)]).size = 1 := rfl
        have l1 : L (strOfNums [(x : Int)]) = [UInt8.ofNat x] := by rw [strOf_B, L_B]; simp [u8_nat]
        have l2 : L (strOfNums [(y : Int)]) = [UInt8.ofNat y] := by rw [strOf_B, L_B]; simp [u8_nat]
        have hne : UInt8.ofNat x ≠ UInt8.ofNat y := by
          intro h
          have := congrArg UInt8.toNat h
          simp [Nat.mod_eq_of_lt hx, Nat.mod_eq_of_lt hy] at this
          omega
        have hb := ofL_byte (L p) (L q) hne
        simp only [cenotaphlaw01_CrcByte.j0, Option.bind_some, if_true, Bool.false_eq_true, if_false]
        rw [if_pos (by omega), if_pos (by rw [ByteArray.size_append]; omega), of_eq _ (by rw [ByteArray.size_append, ByteArray.size_append]; omega)]
        simp only [Option.bind_some]
        rw [if_pos (by omega), if_pos (by rw [ByteArray.size_append]; omega), of_eq _ (by rw [ByteArray.size_append, ByteArray.size_append]; omega)]
        simp only [Option.bind_some]
        rw [L_append, L_append, L_append, L_append, l1, l2, List.append_assoc, List.append_assoc]
        have : ((ofL (L p ++ ([UInt8.ofNat x] ++ L q)) : Int) != (ofL (L p ++ ([UInt8.ofNat y] ++ L q)) : Int)) = true := by
          rw [bne_iff_ne]
          intro h
          exact hb (by exact_mod_cast h)
        rw [this]
end Go.Proofs.Ytkejhcpaklefjaa.Pure
