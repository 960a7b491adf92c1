/- ChipBad, at any lengths. -/
import Derived.Test.YtfjnjhlmmdeilaaBadW
import Derived.Test.YtfjnjhlmmdeilaaOpenB
set_option linter.unusedVariables false
namespace Go.Proofs.Ytfjnjhlmmdeilaa.BadR
open Go.RowKit Go.Proofs.Ytfjnjhlmmdeilaa.ChipM Go.Proofs.Ytfjnjhlmmdeilaa.ChipA Go.Proofs.Ytfjnjhlmmdeilaa.ChipC
set_option maxHeartbeats 2000000 in
set_option maxRecDepth 100000 in
theorem bad_long (a : Option Addr) (len cap : Nat) (a2 : Option Addr) (len2 cap2 : Nat) (w : World) (h1 : len ≤ 140737488351232) (h2 : len2 ≤ 140737488351232) (h : 60 < len ∨ 60 < len2) :
    Calls Try.prog 8 #[.slice a len cap, .slice a2 len2 cap2] w fun e w' => e = .returned (.bool true) ∧ Below w.heap.size w w' := by
  have hnew := new_c 4 4 40 (by decide +kernel)
  have hgt : decide ((60 : Int) < (len : Int) + (len2 : Int)) = true := decide_eq_true (by omega)
  by_cases hl : 60 < len
  · have q1 : decide (60 < (len : Int)) = true := decide_eq_true (by omega)
    have q2 : decide (60 < len) = true := decide_eq_true (by omega)
    clear h hl
    go_enter Try.func8, Try.ntmps8
    go_wp2_with fail
    refine (ChipW.works_any _).mono ?_
    rintro e w1 ⟨rfl, hb1⟩
    go_wp2_with fail
    refine (hnew _).mono ?_
    rintro e w2 ⟨rfl, h2, f2⟩
    go_wp2_with fail
    go_ret
    exact ⟨by simp, hb1.trans (f2.mono hb1.size)⟩
  · have q1 : decide (60 < (len : Int)) = false := decide_eq_false (by omega)
    have q2 : decide (60 < len) = false := decide_eq_false (by omega)
    have q3 : decide (60 < (len2 : Int)) = true := decide_eq_true (by omega)
    have q4 : decide (60 < len2) = true := decide_eq_true (by omega)
    clear h hl
    go_enter Try.func8, Try.ntmps8
    go_wp2_with fail
    refine (ChipW.works_any _).mono ?_
    rintro e w1 ⟨rfl, hb1⟩
    go_wp2_with fail
    refine (hnew _).mono ?_
    rintro e w2 ⟨rfl, h2, f2⟩
    go_wp2_with fail
    go_ret
    exact ⟨by simp, hb1.trans (f2.mono hb1.size)⟩
theorem bad_row {v : Value} {w : World} (a : Option Addr × Nat × Nat × (Nat → Int × Int × Int × ByteArray)) (h : OpenB.ActsIn w v a) {v2 : Value} (a2 : Option Addr × Nat × Nat × (Nat → Int × Int × Int × ByteArray)) (h2 : OpenB.ActsIn w v2 a2) :
    Calls Try.prog 8 #[v, v2] w fun e w' => e = .returned (.bool true) ∧ Below w.heap.size w w' := by
  obtain ⟨a, len, cap, z⟩ := a
  obtain ⟨a2, len2, cap2, z2⟩ := a2
  obtain ⟨⟨rfl, hc⟩, hm⟩ := h
  obtain ⟨⟨rfl, hc2⟩, hm2⟩ := h2
  simp only at hc hc2 hm hm2
  by_cases hl : 60 < len ∨ 60 < len2
  · exact bad_long a len cap a2 len2 cap2 w hm hm2 hl
  · exact BadW.bad_main a len cap z a2 len2 cap2 z2 w (by omega) (by omega) hc hc2
end Go.Proofs.Ytfjnjhlmmdeilaa.BadR
