/- ChipKeeps, whatever it is given: its cases. -/
import Derived.Test.YtfjnjhlmmdeilaaKeep
set_option linter.unusedVariables false
namespace Go.Proofs.Ytfjnjhlmmdeilaa.KeepR
open Go.RowKit Go.Proofs.Ytfjnjhlmmdeilaa.ChipM Go.Proofs.Ytfjnjhlmmdeilaa.ChipA Go.Proofs.Ytfjnjhlmmdeilaa.ChipC

set_option maxHeartbeats 4000000 in
set_option maxRecDepth 100000 in
theorem keep_no (n p d : Int) (a : Option Addr) (len cap : Nat) (w : World) (hs : sizes n p d = false) :
    Calls Try.prog 7 #[.int .i64 n, .int .i64 p, .int .i64 d, .slice a len cap] w fun e w' => e = .returned (.bool true) ∧ Below w.heap.size w w' := by
  have hnew := new_no n p d hs
  clear hs
  by_cases hl : len ≤ 60
  · have q1 : decide (60 < (len : Int)) = false := decide_eq_false (by omega)
    have q2 : decide (60 < len) = false := decide_eq_false (by omega)
    go_enter Try.func7, Try.ntmps7
    go_wp2_with fail
    refine (ChipW.works_any _).mono ?_
    rintro e w1 ⟨rfl, hb1⟩
    go_wp2_with fail
    refine (hnew _).mono ?_
    rintro e w2 ⟨rfl, rfl⟩
    go_wp2_with fail
    go_ret
    exact ⟨rfl, hb1⟩
  · have q1 : decide (60 < (len : Int)) = true := decide_eq_true (by omega)
    have q2 : decide (60 < len) = true := decide_eq_true (by omega)
    go_enter Try.func7, Try.ntmps7
    go_wp2_with fail
    refine (ChipW.works_any _).mono ?_
    rintro e w1 ⟨rfl, hb1⟩
    go_wp2_with fail
    refine (hnew _).mono ?_
    rintro e w2 ⟨rfl, rfl⟩
    go_wp2_with fail
    go_ret
    exact ⟨rfl, hb1⟩
set_option maxHeartbeats 4000000 in
set_option maxRecDepth 100000 in
theorem keep_big (n p d : Nat) (a : Option Addr) (len cap : Nat) (w : World) (hs : sizes n p d = true) (hbig : 60 < len ∨ len ≤ 60 ∧ 8 < n ∨ len ≤ 60 ∧ n ≤ 8 ∧ 8 < p) :
    Calls Try.prog 7 #[.int .i64 (n : Int), .int .i64 (p : Int), .int .i64 (d : Int), .slice a len cap] w fun e w' => e = .returned (.bool true) ∧ Below w.heap.size w w' := by
  have hnew := new_c n p d hs
  clear hs
  rcases hbig with h1 | ⟨h1, h2⟩ | ⟨h1, h2, h3⟩
  · have q1 : decide (60 < (len : Int)) = true := decide_eq_true (by omega)
    have q2 : decide (60 < len) = true := decide_eq_true (by omega)
    clear h1
    go_enter Try.func7, Try.ntmps7
    go_wp2_with fail
    refine (ChipW.works_any _).mono ?_
    rintro e w1 ⟨rfl, hb1⟩
    go_wp2_with fail
    refine (hnew _).mono ?_
    rintro e w2 ⟨rfl, h2, f2⟩
    go_wp2_with fail
    go_ret
    exact ⟨rfl, hb1.trans (f2.mono hb1.size)⟩
  · have q1 : decide (60 < (len : Int)) = false := decide_eq_false (by omega)
    have q2 : decide (60 < len) = false := decide_eq_false (by omega)
    have q3 : decide (8 < (n : Int)) = true := decide_eq_true (by omega)
    have q4 : decide (8 < n) = true := decide_eq_true (by omega)
    clear h1 h2
    go_enter Try.func7, Try.ntmps7
    go_wp2_with fail
    refine (ChipW.works_any _).mono ?_
    rintro e w1 ⟨rfl, hb1⟩
    go_wp2_with fail
    refine (hnew _).mono ?_
    rintro e w2 ⟨rfl, h2, f2⟩
    go_wp2_with fail
    go_ret
    exact ⟨rfl, hb1.trans (f2.mono hb1.size)⟩
  · have q1 : decide (60 < (len : Int)) = false := decide_eq_false (by omega)
    have q2 : decide (60 < len) = false := decide_eq_false (by omega)
    have q3 : decide (8 < (n : Int)) = false := decide_eq_false (by omega)
    have q4 : decide (8 < n) = false := decide_eq_false (by omega)
    have q5 : decide (8 < (p : Int)) = true := decide_eq_true (by omega)
    have q6 : decide (8 < p) = true := decide_eq_true (by omega)
    clear h1 h2 h3
    go_enter Try.func7, Try.ntmps7
    go_wp2_with fail
    refine (ChipW.works_any _).mono ?_
    rintro e w1 ⟨rfl, hb1⟩
    go_wp2_with fail
    refine (hnew _).mono ?_
    rintro e w2 ⟨rfl, h2, f2⟩
    go_wp2_with fail
    go_ret
    exact ⟨rfl, hb1.trans (f2.mono hb1.size)⟩
theorem keep_row (n : Int) (_ : (Lit.int .i64 n).wf = true) (p : Int) (_ : (Lit.int .i64 p).wf = true) (d : Int) (_ : (Lit.int .i64 d).wf = true) {v : Value} {w : World} (a : Option Addr × Nat × Nat × (Nat → Int × Int × Int × ByteArray)) (h : OpenA.ActsAt w v a) :
    Calls Try.prog 7 #[.int .i64 n, .int .i64 p, .int .i64 d, v] w fun e w' => e = .returned (.bool true) ∧ Below w.heap.size w w' := by
  obtain ⟨a, len, cap, z⟩ := a
  obtain ⟨rfl, hc⟩ := h
  simp only at hc
  cases hs : sizes n p d with
  | false => exact keep_no n p d a len cap w hs
  | true =>
    obtain ⟨n, rfl⟩ : ∃ k : Nat, n = (k : Int) := ⟨n.toNat, by unfold sizes within at hs; simp at hs; omega⟩
    obtain ⟨p, rfl⟩ : ∃ k : Nat, p = (k : Int) := ⟨p.toNat, by unfold sizes within at hs; simp at hs; omega⟩
    obtain ⟨d, rfl⟩ : ∃ k : Nat, d = (k : Int) := ⟨d.toNat, by unfold sizes within at hs; simp at hs; omega⟩
    by_cases hl : len ≤ 60
    · by_cases hn : n ≤ 8
      · by_cases hp : p ≤ 8
        · exact Keep.keep_main a len cap n p d z w hl hs hn hp hc
        · exact keep_big n p d a len cap w hs (Or.inr (Or.inr ⟨hl, hn, by omega⟩))
      · exact keep_big n p d a len cap w hs (Or.inr (Or.inl ⟨hl, by omega⟩))
    · exact keep_big n p d a len cap w hs (Or.inl (by omega))
end Go.Proofs.Ytfjnjhlmmdeilaa.KeepR
