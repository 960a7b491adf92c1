/- cenotaphlaw04.WireOnly: it returns true, whatever it is given. -/
import Derived.Test.YtgdhbmdhgejnkaaWireO3
namespace Go.Proofs.Ytgdhbmdhgejnkaa.WireO
open Go.RowKit Go.Proofs.Ytgdhbmdhgejnkaa.Fn Go.Proofs.YtgdhbmdhgejnkaaW.PrintWords Go.Proofs.YtgdhbmdhgejnkaaW.PrintLast Go.Proofs.Ytgdhbmdhgejnkaa.WireD Go.Proofs.Ytgdhbmdhgejnkaa.WireM Go.Proofs.Ytgdhbmdhgejnkaa.WireP Go.Proofs.Ytgdhbmdhgejnkaa.WireC
set_option maxHeartbeats 40000000 in
set_option maxRecDepth 100000 in
theorem only_any (s : ByteArray) (hz : s.size ≤ 9223372036854775807) (most : Int) (w : World) : Calls Try.prog 6 #[.string s, .int .i64 most] w fun e w' => e = .returned (.bool true) ∧ Below w.heap.size w w' := by
  by_cases c : 300 < s.size
  · have hd : decide (300 < (s.size : Int)) = true := decide_eq_true (by omega)
    have hd2 : decide (300 < s.size) = true := decide_eq_true (by omega)
    go_enter Try.func6, Try.ntmps6
    go_wp2_with fail
    refine (WireW.works_any _).mono ?_
    rintro e w1 ⟨rfl, hb⟩
    go_wp2_with fail
    go_ret
    exact ⟨rfl, hb⟩
  · have hd : decide (300 < (s.size : Int)) = false := decide_eq_false (by omega)
    have hd2 : decide (300 < s.size) = false := decide_eq_false (by omega)
    rcases hN : numT (getNum (L s)) with ⟨n, a, p⟩
    rcases hT : tr (getText (L s) most) with ⟨t, b, q⟩
    rcases hD : sumT s with ⟨d, c, r⟩
    rcases hF : tr (getFrame (L s)) with ⟨f, g, u⟩
    have hds : d.size = 32 := by have := sumT_size s; rw [hD] at this; exact this
    exact only_main s hz most w hd hd2 n a p hN t b q hT d c r hD f g u hF hds
theorem only_row (s : ByteArray) (hs : s.size ≤ 140737488351232) (most : Int) (_ : (Lit.int .i64 most).wf = true) (w : World) : Calls Try.prog 6 #[.string s, .int .i64 most] w fun e w' => e = .returned (.bool true) ∧ Below w.heap.size w w' :=
  only_any s (by omega) most w
end Go.Proofs.Ytgdhbmdhgejnkaa.WireO
