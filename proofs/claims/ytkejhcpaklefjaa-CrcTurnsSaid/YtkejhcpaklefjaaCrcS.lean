/- The walks of crc.Step and crc.Text. -/
import Derived.Test.YtkejhcpaklefjaaCrcL
import Derived.Lib.ConvBytes
import Derived.Laws.BytesArg
namespace Go.Proofs.Ytkejhcpaklefjaa.CrcS
open Go.RowKit Go.Proofs.Ytkejhcpaklefjaa.CrcA

set_option maxHeartbeats 400000 in
set_option maxRecDepth 10000 in
theorem step_any (c b : Int) (w : World) : Calls Try.prog 15 #[.int .u32 c, .int .u8 b] w fun e w' => e = .returned (.int .u32 (goStep c b)) ∧ Below w.heap.size w w' := by
  have hz := zero60
  have hsg : IntKind.u32.signed = false := rfl
  obtain ⟨n, hn, he⟩ := xor_u8_range (c % 256) b
  have HG : goStep c b = bits .xor .u32 (tab8 8 n) (c / 256) := by unfold goStep; rw [he]
  have HG := Lib.hid HG
  go_enter Try.func15, Try.ntmps15
  go_wp2_with fail
  refine (table_any _).mono ?_
  rintro e w1 ⟨rfl, hb⟩
  have hcell := tabArr_cell w1 n hn
  go_wp2_with (refine wpList_store_row rfl 37 (.tmp 5) (.tmp 6) rfl w1.heap.size tabArr rfl rfl 37 zeros256 (heap_alloc_new w1 _) (by rw [size60, tabArr_size]) (by rw [zeros_size, tabArr_size]) tabArr_one ?_; rw [World.setRow_alloc_new])
  go_ret
  exact ⟨by rw [HG.out]; rfl, hb.alloc hb.size _⟩

/-! ### crc.Text -/
def digits : ByteArray := ⟨#[48, 49, 50, 51, 52, 53, 54, 55, 56, 57, 97, 98, 99, 100, 101, 102]⟩
def digit (n : Nat) : UInt8 := digits.data.toList.getD n 0
/-- The eight digits. -/
def text8 (c : Nat) : List UInt8 := [digit (c / 268435456 % 16), digit (c / 16777216 % 16), digit (c / 1048576 % 16), digit (c / 65536 % 16), digit (c / 4096 % 16), digit (c / 256 % 16), digit (c / 16 % 16), digit (c % 16)]
/-- What stands after k rounds. -/
def after (c : Nat) : Nat → Array Value
  | 0 => Array.replicate 8 (.int .u8 0)
  | k + 1 => (after c k).setIfInBounds (7 - k) (.int .u8 ((digit (c / 16 ^ k % 16)).toNat : Int))
theorem after_size (c : Nat) : ∀ k, (after c k).size = 8
  | 0 => by unfold after; exact Array.size_replicate
  | k + 1 => by rw [after, Array.size_setIfInBounds, after_size c k]
theorem after_full (c : Nat) : after c 8 = ((text8 c).map fun b => Value.int .u8 (b.toNat : Int)).toArray := by
  simp [after, text8, Array.replicate]
theorem digit_at (n : Nat) : ∀ h2 : n < digits.size, digits[n] = digit n := by
  intro h2
  unfold digit
  rw [List.getD_eq_getElem?_getD, List.getElem?_eq_getElem (by rw [Array.length_toList]; exact h2)]
  rfl
theorem zero8 (c : Nat) (w : World) : Sem.run Try.prog (zeroValue 40) w = .ok (.agg (after c 0)) w := by unfold after; kernel_rfl
theorem after_row (w : World) (c k : Nat) : (w.alloc (.cells (after c k) 40)).heap[w.heap.size]? = some (.cells (after c k) 40 (0, 0)) := heap_alloc_new w _
theorem after_cell (w : World) (c k j : Nat) (h : j < 8) : ∃ v, (w.alloc (.cells (after c k) 40)).cell? ⟨w.heap.size, j, none⟩ = some v := by
  rw [cell_of_row _ _ _ _ _ _ (after_row w c k), Array.getElem?_eq_getElem (by rw [after_size]; exact h)]
  exact ⟨_, rfl⟩
theorem after_frozen (w : World) (c k j : Nat) : (w.alloc (.cells (after c k) 40)).frozen? ⟨w.heap.size, j, none⟩ = false := frozen_of_row _ _ _ _ _ (after_row w c k)
theorem after_set (w : World) (c k : Nat) : (w.alloc (.cells (after c k) 40)).setCell ⟨w.heap.size, 7 - k, none⟩ (.int .u8 ((digit (c / 16 ^ k % 16)).toNat : Int)) = w.alloc (.cells (after c (k + 1)) 40) := by
  rw [setCell_eq_setRow _ _ _ _ _ _ _ (after_row w c k)]
  exact World.setRow_alloc_new _ _ _ _
theorem after_succ (c k : Nat) : after c (k + 1) = (after c k).setIfInBounds (7 - k) (.int .u8 ((digit (c / 16 ^ k % 16)).toNat : Int)) := rfl
def digI (n : Nat) : Int := ((digit n).toNat : Int)
theorem digI_at (n : Nat) (hn : n < 16) : ((({ data := #[48, 49, 50, 51, 52, 53, 54, 55, 56, 57, 97, 98, 99, 100, 101, 102] } : ByteArray)[n]'hn).toNat : Int) = digI n := by
  unfold digI
  rw [← digit_at n hn]
  rfl
theorem digI_eq (n : Nat) : digI n = ((digit n).toNat : Int) := rfl
theorem conv_after (w : World) (c : Nat) : (convert 33 9 (.slice (some ⟨w.heap.size, 0, none⟩) 8 8)).run Try.prog (w.alloc (.cells (after c 8) 40)) = .ok (.string ⟨(text8 c).toArray⟩) (w.alloc (.cells (after c 8) 40)) := by
  have h := run_convert_bytes_arg (P := Try.prog) (w.alloc (.cells (after c 8) 40)) 33 5 Try.underlying33 Try.underlying5 w.heap.size 0 8 8 ((text8 c).map fun b => (b.toNat : Int)) rfl (fun i hi => by
    rw [cell_of_row _ _ _ _ _ _ (after_row w c 8), after_full, Nat.zero_add, List.getElem?_toArray, List.getElem?_map, List.getD_eq_getElem?_getD, List.getElem?_map]
    have hl : i < (text8 c).length := hi
    rw [List.getElem?_eq_getElem hl]
    rfl) 9 Try.underlying9
  have e : strOfNums ((text8 c).map fun b => (b.toNat : Int)) = ⟨(text8 c).toArray⟩ := by
    apply ByteArray.ext
    apply Array.ext'
    rw [strOfNums_data, List.map_map]
    have : ((fun n : Int => UInt8.ofNat n.toNat) ∘ fun b : UInt8 => (b.toNat : Int)) = id := by
      funext b
      simp
    rw [this, List.map_id]
  rwa [e] at h
attribute [irreducible] after text8 digI digit
set_option maxHeartbeats 800000 in
set_option maxRecDepth 10000 in
theorem text_any (c : Nat) (hc : c < 2 ^ 32) (w : World) : Calls Try.prog 19 #[.int .u32 (c : Int)] w fun e w' => e = .returned (.string ⟨(text8 c).toArray⟩) ∧ Below w.heap.size w w' := by
  have hz := zero8 c
  go_enter Try.func19, Try.ntmps19
  go_wp2_with fail
  clear hz
  go_loopw [0, 5] (fun x i wr => ∃ k m : Nat, k ≤ 8 ∧ i = .int .i64 k ∧ x = .int .u32 (m : Int) ∧ Hid (m = c / 16 ^ k) ∧ wr = w.alloc (.cells (after c k) 40)) (fun _ i _ => 8 - (intOf i).toNat)
  case atStart => exact ⟨0, c, by omega, rfl, rfl, Lib.hid (by simp), rfl⟩
  case round =>
    obtain ⟨k, m, hk, rfl, rfl, HM, rfl⟩ := hrel
    by_cases hlt : k < 8
    · have hm : m < 4294967296 := by
        have := HM.out
        rw [this]
        exact Nat.lt_of_le_of_lt (Nat.div_le_self _ _) hc
      obtain ⟨n, HN, hn⟩ : ∃ n, Hid (n = m % 16) ∧ n < 16 := ⟨_, Lib.hid rfl, Nat.mod_lt _ (by omega)⟩
      have hand : bits .and .u32 (m : Int) 15 = (n : Int) := by
        have := u32_and_nat m 15 (by omega) (by omega)
        rw [show (15 : Nat) = 2 ^ 4 - 1 from rfl, Nat.and_two_pow_sub_one_eq_mod] at this
        rw [HN.out]
        exact this
      have hdig := digI_at n hn
      obtain ⟨v, hv⟩ := after_cell w c k (7 - k) (by omega)
      have hf := after_frozen w c k (7 - k)
      clear hm hc
      go_wp2_with fail
      go_roundw
      case rel =>
        refine ⟨k + 1, m / 16, by omega, by go_num, by simp, Lib.hid ?_, ?_⟩
        · rw [HM.out, Nat.pow_succ, Nat.div_div_eq_div_mul]
        · rw [after_succ, ← HM.out, ← HN.out, digI_eq]
      case measure => simp [intOf]; omega
    · obtain rfl : k = 8 := by omega
      have hcv := conv_after w c
      go_wp2_with fail
      go_ret
      exact ⟨rfl, (Below.refl _ _).alloc (Nat.le_refl _) _⟩
end Go.Proofs.Ytkejhcpaklefjaa.CrcS
