/- What the walk of crc.More comes to is the plain CRC-32. -/
import Derived.Test.YtobkeakbahkglaaCrcA
import Derived.Test.YtobkeakbahkglaaCrcM
namespace Go.Proofs.Ytobkeakbahkglaa.CrcL
open Go.RowKit Go.Proofs.Ytobkeakbahkglaa.CrcM

theorem stepV_nat {c : Nat} (h : c < 2 ^ 32) : CrcA.stepV (c : Int) = (bit1 c : Int) := by
  have h1 : bits .and .u32 (c : Int) 1 = ((c % 2 : Nat) : Int) := by
    have := u32_and_nat c 1 (by omega) (by omega)
    rw [Nat.and_one_is_mod] at this
    exact this
  unfold CrcA.stepV bit1
  rw [h1]
  rcases Nat.mod_two_eq_zero_or_one c with hc | hc
  · have h2 : bits .and .u32 3988292384 (-((0 : Nat) : Int) % 4294967296) = ((0 : Nat) : Int) := by kernel_rfl
    rw [hc, h2]
    simp
    have := u32_xor_nat (c / 2) 0 (by omega) (by omega)
    simpa using this
  · have h2 : bits .and .u32 3988292384 (-((1 : Nat) : Int) % 4294967296) = ((poly : Nat) : Int) := by kernel_rfl
    rw [hc, h2]
    have := u32_xor_nat (c / 2) poly (by omega) (by decide)
    simpa using this
theorem tab8_nat {c : Nat} (h : c < 2 ^ 32) : ∀ j, CrcA.tab8 j (c : Int) = (rep j c : Int)
  | 0 => by unfold CrcA.tab8; rfl
  | j + 1 => by rw [CrcA.tab8, tab8_nat h j, stepV_nat (rep_lt h j)]; rfl
theorem goStep_nat {c b : Nat} (h : c < 2 ^ 32) (hb : b < 256) : CrcA.goStep (c : Int) (b : Int) = (bstep c b : Int) := by
  have hx : c % 256 ^^^ b < 2 ^ 8 := Nat.xor_lt_two_pow (by omega) (by omega)
  have h1 : bits .xor .u8 ((c : Int) % 256) (b : Int) = ((c % 256 ^^^ b : Nat) : Int) := by
    have := u8_xor_nat (c % 256) b (by omega) hb
    simpa using this
  have ht := tab8_nat (c := c % 256 ^^^ b) (by omega) 8
  have hr := rep_lt (c := c % 256 ^^^ b) (by omega) 8
  have h2 := u32_xor_nat (rep 8 (c % 256 ^^^ b)) (c / 256) (by omega) (by omega)
  unfold CrcA.goStep
  rw [h1, ht, bstep_table]
  simpa using h2
theorem byteAt_nat (s : ByteArray) (k : Nat) (h : k < s.size) : CrcA.byteAt s k = ((s.data.toList[k]'(by rw [Array.length_toList]; exact h)).toNat : Int) := by
  rw [← CrcA.byteAt_at s k h]
  rfl
theorem goTo_nat {c : Nat} (h : c < 2 ^ 32) (s : ByteArray) : ∀ k, k ≤ s.size → CrcA.goTo (c : Int) s k = (fold c (s.data.toList.take k) : Int)
  | 0, _ => by unfold CrcA.goTo; rfl
  | k + 1, hk => by
    have hl : k < s.data.toList.length := by rw [Array.length_toList]; exact hk
    rw [CrcA.goTo, goTo_nat h s k (by omega), byteAt_nat s k hk, goStep_nat (fold_lt _ h) (UInt8.toNat_lt _), List.take_succ_eq_append_getElem hl, fold_append]
    rfl
theorem notU_nat {c : Nat} (h : c < 2 ^ 32) : CrcA.notU (c : Int) = (notN c : Int) := by
  have h1 := u32_xor_nat 4294967295 c (by omega) (by omega)
  have h2 : 4294967295 ^^^ c = notN c := by
    unfold notN
    have h3 : 4294967295 - c + c = 4294967295 := by omega
    have h4 : (4294967295 - c) &&& c = 0 := by
      apply Nat.eq_of_testBit_eq
      intro i
      have := Nat.testBit_two_pow_sub_succ (x := c) (n := 32) (by omega) i
      rw [show 2 ^ 32 - (c + 1) = 4294967295 - c by omega] at this
      rw [Nat.testBit_and, this]
      simp
    apply Nat.eq_of_testBit_eq
    intro i
    have h5 := Nat.testBit_two_pow_sub_succ (x := c) (n := 32) (by omega) i
    rw [show 2 ^ 32 - (c + 1) = 4294967295 - c by omega] at h5
    rw [Nat.testBit_xor, h5, show (4294967295 : Nat) = 2 ^ 32 - 1 from rfl, Nat.testBit_two_pow_sub_one]
    by_cases hi : i < 32
    · simp [hi]
    · have : c.testBit i = false := Nat.testBit_lt_two_pow (Nat.lt_of_lt_of_le h (Nat.pow_le_pow_right (by omega) (by omega)))
      simp [hi, this]
  unfold CrcA.notU
  rw [h2] at h1
  exact h1
theorem goMore_nat {c : Nat} (h : c < 2 ^ 32) (s : ByteArray) : CrcA.goMore (c : Int) s = (more c s.data.toList : Int) := by
  have hl : s.size = s.data.toList.length := by rw [Array.length_toList]; rfl
  unfold CrcA.goMore more
  rw [notU_nat h, goTo_nat (notN_lt c) s s.size (Nat.le_refl _), hl, List.take_length, notU_nat (fold_lt _ (notN_lt c))]
end Go.Proofs.Ytobkeakbahkglaa.CrcL
