/- cenotaphlaw04.WireSums: it returns true, whatever it is given. -/
import Derived.Test.YtgdhbmdhgejnkaaWireB
import Derived.Test.YtgdhbmdhgejnkaaCalmF
namespace Go.Proofs.Ytgdhbmdhgejnkaa.WireS
open Go.RowKit Go.Proofs.Ytgdhbmdhgejnkaa.Fn Go.Proofs.YtgdhbmdhgejnkaaW.PrintWords Go.Proofs.YtgdhbmdhgejnkaaW.PrintLast Go.Proofs.Ytgdhbmdhgejnkaa.WireD Go.Proofs.Ytgdhbmdhgejnkaa.WireM Go.Proofs.Ytgdhbmdhgejnkaa.WireP Go.Proofs.Ytgdhbmdhgejnkaa.WireC Go.Proofs.Ytgdhbmdhgejnkaa.WireO Go.Proofs.Ytgdhbmdhgejnkaa.WireB

theorem sumT_ok (s : ByteArray) {x r : ByteArray} {b : Bool} (h : sumT s = (x, r, b)) : b = decide (32 ≤ s.size) := by
  unfold sumT at h
  split at h
  · simp only [Prod.mk.injEq] at h
    rw [← h.2.2]
    exact (decide_eq_false (by omega)).symm
  · simp only [Prod.mk.injEq] at h
    rw [← h.2.2]
    exact (decide_eq_true (by omega)).symm
structure SS (w : World) (d : ByteArray) (W : World) : Prop where
  b : Below w.heap.size w W
  g : W.heap[w.heap.size]? = some (.cells (dcells d) 28 (0, 0))
abbrev SE (W W' : World) : Prop := Below W.heap.size W W'
def SC (w : World) (d : ByteArray) (k : Nat) : Nat → Value
  | 0 => .string d
  | 2 => .int .u8 (byteAt d k)
  | 4 => .pointer (some ⟨w.heap.size, k, none⟩)
  | 5 => .int .u8 (byteAt d k)
  | 6 => .bool false
  | _ => .int .i64 k
def SV (w : World) (d : ByteArray) (k : Nat) (i : Nat) (v : Value) (_ : World) : Prop := v = SC w d k i
set_option maxHeartbeats 4000000 in
set_option maxRecDepth 100000 in
theorem sums_any (d : ByteArray) (hds : d.size = 32) (s : ByteArray) (hz : s.size ≤ 9223372036854775807) (w : World) : Calls Try.prog 10 #[.agg (dcells d), .string s] w fun e w' => e = .returned (.bool true) ∧ Below w.heap.size w w' := by
  have hz0 := zeroD
  have HB := Aside0.mk (Below.refl w.heap.size w)
  have g2 := Lib.hid (heap_alloc_new w (.cells (dcells d) 28))
  by_cases c1 : 300 < s.size
  · have q1 : decide (300 < (s.size : Int)) = true := decide_eq_true (by omega)
    have q2 : decide (300 < s.size) = true := decide_eq_true c1
    go_enter Try.func10, Try.ntmps10
    go_wp2_with fail
    refine (WireW.works_any _).mono ?_
    rintro e w1 ⟨rfl, hb⟩
    have n0_ := Aside0.mk (below_step (by repeat (first | exact HB.out | apply below_alloc)) hb); clear HB; have HB := n0_; clear n0_
    have g0_ := Lib.hid ((hb.block _ (Array.getElem?_eq_some_iff.1 g2.out).1).trans g2.out); clear g2; have g2 := g0_; clear g0_ hb
    go_wp2_with (refine wpList_load_row rfl 28 (.tmp 2) rfl w.heap.size rfl 28 (dcells d) (0, 0) _ g2.out Try.underlying28 rfl (by rw [sizeD, dcells_size, hds]) ?_)
    refine (sum_any d hds _).mono ?_
    rintro e w2 ⟨rfl, hb⟩
    have n0_ := Aside0.mk (below_step (by repeat (first | exact HB.out | apply below_alloc)) hb); clear HB; have HB := n0_; clear n0_
    clear g2 hb
    go_wp2_with fail
    go_ret
    exact ⟨rfl, HB.out⟩
  · have q1 : decide (300 < (s.size : Int)) = false := decide_eq_false (by omega)
    have q2 : decide (300 < s.size) = false := decide_eq_false c1
    obtain ⟨x3, r3, b3, hD⟩ : ∃ x r b, sumT s = (x, r, b) := ⟨_, _, _, rfl⟩
    have hx3 : x3.size = 32 := by have := sumT_size s; rw [hD] at this; exact this
    have cD := getsum_calls s hz _ _ _ hD
    obtain rfl := sumT_ok s hD
    clear hD hz
    go_enter Try.func10, Try.ntmps10
    go_wp2_with fail
    refine (WireW.works_any _).mono ?_
    rintro e w1 ⟨rfl, hb⟩
    have n0_ := Aside0.mk (below_step (by repeat (first | exact HB.out | apply below_alloc)) hb); clear HB; have HB := n0_; clear n0_
    have g0_ := Lib.hid ((hb.block _ (Array.getElem?_eq_some_iff.1 g2.out).1).trans g2.out); clear g2; have g2 := g0_; clear g0_ hb
    go_wp2_with (refine wpList_load_row rfl 28 (.tmp 2) rfl w.heap.size rfl 28 (dcells d) (0, 0) _ g2.out Try.underlying28 rfl (by rw [sizeD, dcells_size, hds]) ?_)
    refine (sum_any d hds _).mono ?_
    rintro e w2 ⟨rfl, hb⟩
    have n0_ := Aside0.mk (below_step (by repeat (first | exact HB.out | apply below_alloc)) hb); clear HB; have HB := n0_; clear n0_
    have g0_ := Lib.hid ((hb.block _ (Array.getElem?_eq_some_iff.1 g2.out).1).trans g2.out); clear g2; have g2 := g0_; clear g0_ hb
    go_wp2_with fail
    go_loopw [7] (fun i wr => ∃ k : Nat, k ≤ 32 ∧ i = .int .i64 k ∧ Aside0 (Below w.heap.size w wr) ∧ Hid (wr.heap[w.heap.size]? = some (.cells (dcells d) 28 (0, 0)))) (fun i _ => 32 - (intOf i).toNat)
    case atStart => exact ⟨0, by omega, rfl, HB, g2⟩
    case round =>
      clear HB g2
      obtain ⟨k, hk, rfl, HB, g2⟩ := hrel
      by_cases hlk : k < 32
      · have hcell : wr.cell? ⟨w.heap.size, k, none⟩ = some (.int .u8 (byteAt d k)) := by
          rw [cell_of_row _ _ _ _ _ _ g2.out, dcells_get d k (by omega), byteAt_at d k (by omega)]
        have hbt := byteAt_at d k (by omega)
        have hks : k < d.size := by omega
        go_wp2_with fail
        refine Calm.calm_region (SS w d) SE (SV w d k) [2, 6, 7] (by kernel_rfl) (by kernel_rfl) (by kernel_rfl) (fun _ _ _ _ h _ => h) (fun _ => Below.refl _ _) ⟨HB.out.drew, g2.out⟩ ?_ ?_
        · simp only [Calm.Steps, Calm.Step]
          refine ⟨?_, ?_, ?_, ?_, ?_, ?_, ?_, trivial⟩ <;> intro a W hS hN hF <;> simp [Calm.needs, Calm.same, Calm.Left, SV, SC, Region.binds] at hN hF
          any_goals first
            | (refine Calm.step_val (Calm.wanted_none rfl) _ ?_ hS (Below.refl _ _) rfl; simp [go_sem, Act.eval, hN, hF, SC]; done)
            | (refine Calm.step_val (Calm.wanted_none rfl) _ ?_ hS (Below.refl _ _) rfl; simp [go_sem, Act.eval, hN, hF, SC, hks, hbt]; done)
            | (have hc2 : W.cell? ⟨w.heap.size, k, none⟩ = some (.int .u8 (byteAt d k)) := by
                rw [cell_of_row _ _ _ _ _ _ hS.g, dcells_get d k (by omega), byteAt_at d k (by omega)]
               refine Calm.step_val (Calm.wanted_none rfl) _ ?_ hS (Below.refl _ _) rfl; simp [go_sem, Act.eval, hN, hF, SC, hc2]; done)
            | skip
          have hk3 : (k : Int) < 32 := by omega
          refine Calm.step_val (Calm.wanted_none rfl) (.pointer (some ⟨w.heap.size, k, none⟩)) ?_ hS (Below.refl _ _) rfl
          simp [go_sem, Act.eval, hN, hF, hk3]
        · intro a W hI
          have ha := hI.frame (by kernel_rfl) (SC w d k) (fun i v h _ _ => h)
          have hS := hI.s
          clear hI
          subst ha
          have g2 := Lib.hid hS.g
          have HB := Aside0.mk hS.b
          clear hS hcell hbt
          simp only [Calm.puts, SC]
          go_wp2_with fail
          go_roundw
          case rel => exact ⟨k + 1, by omega, by go_num, HB, g2⟩
          case measure => simp [intOf]; omega
      · obtain rfl : k = 32 := by omega
        go_wp2_with fail
        refine (cD _).mono ?_
        rintro e w3 ⟨rfl, hb⟩
        have n0_ := Aside0.mk (below_step (by repeat (first | exact HB.out | apply below_alloc)) hb); clear HB; have HB := n0_; clear n0_ hb g2
        go_wp2_with (refine wpList_store_row rfl 28 (.tmp 8) (.tmp 44) rfl w3.heap.size (dcells x3) rfl rfl 28 zcells (heap_alloc_new _ _) (by rw [sizeD, dcells_size, hx3]) (by rw [zcells_size, dcells_size, hx3]) (dcells_one _) ?_; rw [World.setRow_alloc_new])
        go_ret
        refine ⟨?_, by repeat (first | exact HB.out | apply below_alloc)⟩
        simp
        omega
theorem sums_row (d : ByteArray) (hd : d.size = 32) (s : ByteArray) (hs : s.size ≤ 140737488351232) (w : World) : Calls Try.prog 10 #[.agg (dcells d), .string s] w fun e w' => e = .returned (.bool true) ∧ Below w.heap.size w w' :=
  sums_any d hd s (by omega) w
end Go.Proofs.Ytgdhbmdhgejnkaa.WireS
