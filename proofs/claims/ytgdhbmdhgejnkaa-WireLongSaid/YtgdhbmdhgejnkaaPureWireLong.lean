/- A number has as few bytes as it can: the plain law. -/
import Derived.Test.YtgdhbmdhgejnkaaWireP
import Derived.Test.YtgdhbmdhgejnkaaFn7
namespace Go.Proofs.Ytgdhbmdhgejnkaa.Pure
open Go.RowKit Go.Proofs.Ytgdhbmdhgejnkaa.Fn Go.Proofs.YtgdhbmdhgejnkaaW.PrintWords Go.Proofs.YtgdhbmdhgejnkaaW.PrintLast Go.Proofs.Ytgdhbmdhgejnkaa.WireP Go.Proofs.Ytgdhbmdhgejnkaa.WireM

theorem long_l0 (n : Int) (h0 : 0 ≤ n) (h1 : n ≤ 1125899906842624) (m : Nat) : ∀ x : Nat, m ≤ 1125899906842624 → x ≤ 100 → (x + (numB m).length = (numB n.toNat).length + 1) → m + x ≤ 1125899906842725 → Ev (fun k => cenotaphlaw04_WireLong.l0 k n true (x : Int) (m : Int)) true := by
  induction m using Nat.strongRecOn with
  | _ m ih =>
    intro x hm hx he hb
    by_cases h : m < 128
    · refine Ev.step (f := fun k => (wire_Num.f k n).bind fun t200 => (some ((t200.size : Int) == (x : Int)))) (fun k => ?_) (Ev.bind (num_ev n) (Ev.congr (f := fun _ => some true) (fun k => ?_) (Ev.now true)))
      · simp only [cenotaphlaw04_WireLong.l0]
        rw [if_neg (by omega), if_pos trivial]
      · rw [numB_lt h] at he
        simp only [List.length_singleton] at he
        rw [B_size, clampN_in h0 h1]
        have : ((numB n.toNat).length : Int) = (x : Int) := by omega
        rw [this]
        simp
    · have hn8 := numB_len8 (n := n.toNat) (by unfold maxN; omega)
      have e1 : wrap64 ((x : Int) + 1) = ((x + 1 : Nat) : Int) := by rw [w64 (by omega) (by omega)]; omega
      have e2 : wrap64 (Int.tdiv (m : Int) 128) = ((m / 128 : Nat) : Int) := by
        rw [Int.tdiv_eq_ediv_of_nonneg (by omega), w64 (by omega) (by omega)]
        omega
      rw [numB_ge h] at he
      simp only [List.length_cons] at he
      refine Ev.step (f := fun k => cenotaphlaw04_WireLong.l0 k n true ((x + 1 : Nat) : Int) ((m / 128 : Nat) : Int)) (fun k => ?_) (ih (m / 128) (by omega) (x + 1) (by omega) (by omega) (by omega) (by omega))
      simp only [cenotaphlaw04_WireLong.l0]
      rw [if_pos (by omega), e1, e2]
theorem WireLong : cenotaphlaw04_WireLong.Pure := by
  intro n _
  refine Ev.rounds (Ev.bind (f := fun k t197 => if t197 = true then (if n < 0 then (cenotaphlaw04_WireLong.j0 k n t197 true) else (cenotaphlaw04_WireLong.j0 k n t197 (decide (n > 1125899906842624)))) else (some false)) (g := fun _ => cenotaphlaw04_works.f) (Ev.now true) ?_)
  have hc : clampN (mn (mx n 0) 1125899906842624) = clampN n := by
    have := clampN_le n
    unfold maxN at this
    rw [clampN_eq, clampN_in (by omega) (by omega)]
    rfl
  have hout : Ev (fun k => cenotaphlaw04_WireLong.j0 k n true true) true := by
    refine Ev.step (f := fun k => (wire_Num.f k n).bind fun t198 => ((wire_Num.f k (mn (mx n 0) 1125899906842624)).bind fun t199 => (some ((t198.size : Int) == (t199.size : Int))))) (fun k => ?_) (Ev.bind (num_ev n) (Ev.bind (num_ev _) (Ev.congr (f := fun _ => some true) (fun k => ?_) (Ev.now true))))
    · simp only [cenotaphlaw04_WireLong.j0]
      rw [if_pos trivial, if_pos trivial]
    · rw [hc]
      simp
  by_cases h0 : n < 0
  · exact Ev.congr (fun k => by rw [if_pos rfl, if_pos h0]) hout
  · by_cases h1 : n > 1125899906842624
    · exact Ev.congr (fun k => by rw [if_pos rfl, if_neg h0, decide_eq_true h1]) hout
    · have hl := long_l0 n (by omega) (by omega) n.toNat 1 (by omega) (by omega) (by omega) (by omega)
      refine Ev.step (f := fun k => cenotaphlaw04_WireLong.l0 k n true 1 n) (fun k => ?_) (Ev.congr (fun k => by rw [← Int.toNat_of_nonneg (show 0 ≤ n by omega)]; rfl) hl)
      rw [if_pos rfl, if_neg h0, decide_eq_false h1]
      simp only [cenotaphlaw04_WireLong.j0]
      rw [if_neg (by decide)]
end Go.Proofs.Ytgdhbmdhgejnkaa.Pure
