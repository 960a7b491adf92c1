/- cenotaphlaw01.CrcParts: it returns true, whatever it is given. -/
import Derived.Test.YtkejhcpaklefjaaCrcW
import Derived.Test.YtkejhcpaklefjaaCrcP
namespace Go.Proofs.Ytkejhcpaklefjaa.CrcV
open Go.RowKit Go.Proofs.Ytkejhcpaklefjaa.Fn Go.Proofs.Ytkejhcpaklefjaa.CrcP Go.Proofs.Ytkejhcpaklefjaa.CrcM

theorem of_calls (s : ByteArray) (h : s.size ≤ 9223372036854775807) (w : World) : Calls Try.prog 11 #[.string s] w fun e w' => e = .returned (.int .u32 (ofL (L s) : Int)) ∧ Below w.heap.size w w' := CrcW.ofl_of s _ h rfl w
theorem more_calls (s : ByteArray) (c : Nat) (hc : c < 4294967296) (h : s.size ≤ 9223372036854775807) (w : World) : Calls Try.prog 13 #[.int .u32 (c : Int), .string s] w fun e w' => e = .returned (.int .u32 (more c (L s) : Int)) ∧ Below w.heap.size w w' := CrcW.more_of s c _ h hc rfl w
set_option maxHeartbeats 2000000 in
set_option maxRecDepth 100000 in
theorem parts_main (a b : ByteArray) (ha : a.size ≤ 600) (hb : b.size ≤ 600) (w : World) : Calls Try.prog 5 #[.string a, .string b] w fun e w' => e = .returned (.bool true) ∧ Below w.heap.size w w' := by
  have q1 : decide (600 < (a.size : Int)) = false := decide_eq_false (by omega)
  have q2 : decide (600 < (b.size : Int)) = false := decide_eq_false (by omega)
  have q3 : decide (600 < a.size) = false := decide_eq_false (by omega)
  have q4 : decide (600 < b.size) = false := decide_eq_false (by omega)
  have q5 : a.size + b.size ≤ 9223372036854775807 := by omega
  have cAB := of_calls (a ++ b) (by rw [ByteArray.size_append]; omega)
  have cA := of_calls a (by omega)
  have cM := more_calls b (ofL (L a)) (ofL_lt _) (by omega)
  have cE := more_calls ⟨#[]⟩ (ofL (L a)) (ofL_lt _) (by decide)
  have cZ := of_calls ⟨#[]⟩ (by decide)
  have hM : more (ofL (L a)) (L b) = ofL (L (a ++ b)) := by rw [L_append]; exact (more_append 0 (L a) (L b)).symm
  have hE : more (ofL (L a)) (L ⟨#[]⟩) = ofL (L a) := by
    rw [L_empty]
    exact notN_notN (ofL_lt (L a))
  have hZ : ofL (L ⟨#[]⟩) = 0 := by decide +kernel
  rw [hM] at cM
  rw [hE] at cE
  rw [hZ] at cZ
  generalize ((ofL (L (a ++ b)) : Nat) : Int) = x at cAB cM
  generalize ((ofL (L a) : Nat) : Int) = y at cA cM cE
  clear hM hE hZ ha hb
  go_enter Try.func5, Try.ntmps5
  go_wp2_with fail
  refine (CrcW.works_any _).mono ?_
  rintro e w1 ⟨rfl, hb1⟩
  go_wp2_with fail
  refine (cAB _).mono ?_
  rintro e w2 ⟨rfl, hb2⟩
  go_wp2_with fail
  refine (cA _).mono ?_
  rintro e w3 ⟨rfl, hb3⟩
  go_wp2_with fail
  refine (cM _).mono ?_
  rintro e w4 ⟨rfl, hb4⟩
  go_wp2_with fail
  refine (cA _).mono ?_
  rintro e w5 ⟨rfl, hb5⟩
  go_wp2_with fail
  refine (cE _).mono ?_
  rintro e w6 ⟨rfl, hb6⟩
  go_wp2_with fail
  refine (cA _).mono ?_
  rintro e w7 ⟨rfl, hb7⟩
  go_wp2_with fail
  refine (cZ _).mono ?_
  rintro e w8 ⟨rfl, hb8⟩
  go_wp2_with fail
  go_ret
  refine ⟨rfl, ?_⟩
  have b2 := hb1.trans (hb2.mono hb1.size)
  have b3 := b2.trans (hb3.mono b2.size)
  have b4 := b3.trans (hb4.mono b3.size)
  have b5 := b4.trans (hb5.mono b4.size)
  have b6 := b5.trans (hb6.mono b5.size)
  have b7 := b6.trans (hb7.mono b6.size)
  exact b7.trans (hb8.mono b7.size)
set_option maxHeartbeats 2000000 in
set_option maxRecDepth 100000 in
theorem parts_row (a : ByteArray) (ha : a.size ≤ 140737488351232) (b : ByteArray) (hb : b.size ≤ 140737488351232) (w : World) : Calls Try.prog 5 #[.string a, .string b] w fun e w' => e = .returned (.bool true) ∧ Below w.heap.size w w' := by
  by_cases c1 : 600 < a.size
  · have q1 : decide (600 < (a.size : Int)) = true := decide_eq_true (by omega)
    have q3 : decide (600 < a.size) = true := decide_eq_true (by omega)
    clear ha hb c1
    go_enter Try.func5, Try.ntmps5
    go_wp2_with fail
    refine (CrcW.works_any _).mono ?_
    rintro e w1 ⟨rfl, hb1⟩
    go_wp2_with fail
    go_ret
    exact ⟨rfl, hb1⟩
  · by_cases c2 : 600 < b.size
    · have q1 : decide (600 < (a.size : Int)) = false := decide_eq_false (by omega)
      have q3 : decide (600 < a.size) = false := decide_eq_false (by omega)
      have q2 : decide (600 < (b.size : Int)) = true := decide_eq_true (by omega)
      have q4 : decide (600 < b.size) = true := decide_eq_true (by omega)
      clear ha hb c1 c2
      go_enter Try.func5, Try.ntmps5
      go_wp2_with fail
      refine (CrcW.works_any _).mono ?_
      rintro e w1 ⟨rfl, hb1⟩
      go_wp2_with fail
      go_ret
      exact ⟨rfl, hb1⟩
    · exact parts_main a b (by omega) (by omega) w
end Go.Proofs.Ytkejhcpaklefjaa.CrcV
