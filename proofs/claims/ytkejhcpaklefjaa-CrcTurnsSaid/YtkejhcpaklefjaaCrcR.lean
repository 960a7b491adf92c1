/- The walk of cenotaphref01.Text. -/
import Derived.Test.YtkejhcpaklefjaaCrcI
namespace Go.Proofs.Ytkejhcpaklefjaa.CrcR
open Go.RowKit Go.Proofs.Ytkejhcpaklefjaa.CrcS

/-- The last k digits. -/
def lastT (c k : Nat) : ByteArray := ⟨((text8 c).drop (8 - k)).toArray⟩
theorem lastT_zero (c : Nat) : lastT c 0 = ⟨#[]⟩ := by
  unfold lastT text8
  rfl
theorem lastT_full (c : Nat) : lastT c 8 = ⟨(text8 c).toArray⟩ := rfl
theorem text8_drop (c k : Nat) (h : k < 8) : (text8 c).drop (7 - k) = digit (c / 16 ^ k % 16) :: (text8 c).drop (8 - k) := by
  have h8 : k = 0 ∨ k = 1 ∨ k = 2 ∨ k = 3 ∨ k = 4 ∨ k = 5 ∨ k = 6 ∨ k = 7 := by omega
  rcases h8 with rfl | rfl | rfl | rfl | rfl | rfl | rfl | rfl <;> simp [text8]
theorem digits_cut (n : Nat) (h : n < 16) : digits.extract n (n + 1) = ⟨#[digit n]⟩ := by
  have : ∀ m : Fin 16, digits.extract m.val (m.val + 1) = ⟨#[digit m.val]⟩ := by decide +kernel
  exact this ⟨n, h⟩
theorem lastT_succ (c k : Nat) (h : k < 8) : digits.extract (c / 16 ^ k % 16) (c / 16 ^ k % 16 + 1) ++ lastT c k = lastT c (k + 1) := by
  rw [digits_cut _ (Nat.mod_lt _ (by omega))]
  unfold lastT
  apply ByteArray.ext
  apply Array.ext'
  rw [show 8 - (k + 1) = 7 - k by omega, text8_drop c k h]
  simp
theorem lastT_size (c k : Nat) (h : k ≤ 8) : (lastT c k).size = k := by
  show ((text8 c).drop (8 - k)).toArray.size = k
  have : (text8 c).length = 8 := by unfold text8; rfl
  simp [this]
  omega
attribute [irreducible] lastT
set_option maxHeartbeats 1000000 in
set_option maxRecDepth 1000000 in
theorem reftext_any (c : Nat) (hc : c < 2 ^ 32) (w : World) : Calls Try.prog 20 #[.int .u32 (c : Int)] w fun e w' => e = .returned (.string ⟨(text8 c).toArray⟩) ∧ Below w.heap.size w w' := by
  rw [← lastT_full]
  have hds : digits.size = 16 := rfl
  have hS := Lib.hid (lastT_succ c)
  have hz := Lib.hid (lastT_size c)
  go_enter Try.func20, Try.ntmps20
  go_wp2_with fail
  rw [show (⟨#[48, 49, 50, 51, 52, 53, 54, 55, 56, 57, 97, 98, 99, 100, 101, 102]⟩ : ByteArray) = digits from rfl]
  generalize digits = d at hds hS
  go_loop [0, 4, 5] (fun x t i => ∃ k m : Nat, k ≤ 8 ∧ i = .int .i64 k ∧ t = .string (lastT c k) ∧ x = .int .u32 (m : Int) ∧ Hid (m = c / 16 ^ k)) (fun _ _ i => 8 - (intOf i).toNat)
  case atStart => exact ⟨0, c, by omega, rfl, by rw [lastT_zero], rfl, Lib.hid (by simp)⟩
  case round =>
    obtain ⟨k, m, hk, rfl, rfl, rfl, HM⟩ := hrel
    by_cases hlt : k < 8
    · have hm : m < 4294967296 := by
        have := HM.out
        rw [this]
        exact Nat.lt_of_le_of_lt (Nat.div_le_self _ _) hc
      have hm0 : (0 : Int) ≤ (m : Int) := by omega
      have hm3 : (m : Int) / 16 % 4294967296 = ((m / 16 : Nat) : Int) := by omega
      obtain ⟨n, HN, hn⟩ : ∃ n, Hid (n = m % 16) ∧ n < 16 := ⟨_, Lib.hid rfl, Nat.mod_lt _ (by omega)⟩
      have hmod : (m : Int) % 16 = (n : Int) := by have := HN.out; omega
      have HE : Hid (d.extract n (n + 1) ++ lastT c k = lastT c (k + 1)) := Lib.hid (by rw [HN.out, HM.out]; exact hS.out k hlt)
      have hz1 := hz.out k (by omega)
      have hsl : ∀ W : World, (Instr.slice 9 (.string d) (some (.int .i64 (n : Int))) (some (.int .i64 ((n : Int) + 1))) none).run Try.prog W = .ok (.string (d.extract n (n + 1))) W := fun W => by
        have hj1 : (n : Int) ≤ (n : Int) + 1 := by omega
        have hj2 : (n : Int) + 1 ≤ (d.size : Int) := by omega
        have hj3 : (0 : Int) ≤ (n : Int) + 1 := by omega
        have hj5 : ((n : Int) + 1).toNat = n + 1 := by omega
        simp [Instr.slice, run_underlying Try.underlying9, Instr.sliceBounds, run_sliceBound, hj1, hj2, hj3, hj5]
      have hz2 : (d.extract n (n + 1)).size + (lastT c k).size ≤ 9223372036854775807 := by rw [hz1, ByteArray.size_extract]; omega
      clear hm hc hS hz hz1 hds
      go_wp2_with fail
      go_round
      case rel => exact ⟨k + 1, m / 16, by omega, by go_num, by rw [HE.out], by go_num, Lib.hid (by rw [HM.out, Nat.pow_succ, Nat.div_div_eq_div_mul])⟩
      case measure => simp [intOf]; omega
    · obtain rfl : k = 8 := by omega
      go_wp2_with fail
      go_ret
      exact ⟨rfl, Below.refl _ _⟩
end Go.Proofs.Ytkejhcpaklefjaa.CrcR
