/- The walk of cenotaphlaw01.works: it returns true. -/
import Derived.Test.YtkejhcpaklefjaaExtCrc1
import Derived.Test.YtkejhcpaklefjaaFn1
namespace Go.Proofs.Ytkejhcpaklefjaa.CrcW
open Go.RowKit Go.Proofs.Ytkejhcpaklefjaa.Fn

theorem ofl_of (s : ByteArray) (c : Nat) (h : s.size ≤ 9223372036854775807) (hc : CrcM.more 0 s.data.toList = c) (w : World) : Calls Try.prog 11 #[.string s] w fun e w' => e = .returned (.int .u32 (c : Int)) ∧ Below w.heap.size w w' := by
  refine crc_Of.calls s _ w ?_
  unfold crc_Of.f crc_More.f
  rw [if_pos h, ← hc]
  have := CrcL.goMore_nat (c := 0) (by omega) s
  rw [← this]
  rfl
theorem more_of (s : ByteArray) (d c : Nat) (h : s.size ≤ 9223372036854775807) (hd : d < 4294967296) (hc : CrcM.more d s.data.toList = c) (w : World) : Calls Try.prog 13 #[.int .u32 (d : Int), .string s] w fun e w' => e = .returned (.int .u32 (c : Int)) ∧ Below w.heap.size w w' := by
  have := CrcA.more_any (d : Int) s w h
  rwa [CrcL.goMore_nat hd s, hc] at this
theorem step_of (d b c : Nat) (hd : d < 4294967296) (hb : b < 256) (hc : CrcM.bstep d b = c) (w : World) : Calls Try.prog 15 #[.int .u32 (d : Int), .int .u8 (b : Int)] w fun e w' => e = .returned (.int .u32 (c : Int)) ∧ Below w.heap.size w w' := by
  have := CrcS.step_any (d : Int) (b : Int) w
  rwa [CrcL.goStep_nat hd hb, hc] at this
theorem number_of (s : ByteArray) (c : Nat) (hc : CrcN.numN s = some c) (w : World) : Calls Try.prog 17 #[.string s] w fun e w' => e = .returned (.tuple #[.int .u32 (c : Int), .bool true]) ∧ Below w.heap.size w w' := by
  refine (CrcN.number_any s w).mono ?_
  rintro e w' ⟨he, hb⟩
  rw [hc] at he
  exact ⟨he, hb⟩
def ex : ByteArray := ⟨#[49, 50, 51, 52, 53, 54, 55, 56, 57]⟩
def ex1 : ByteArray := ⟨#[49, 50, 51, 52]⟩
def ex2 : ByteArray := ⟨#[53, 54, 55, 56, 57]⟩
def exT : ByteArray := ⟨#[99, 98, 102, 52, 51, 57, 50, 54]⟩
theorem num_ex : CrcN.numN exT = some 3421780262 := by decide +kernel
theorem text_ex : CrcS.text8 3421780262 = [99, 98, 102, 52, 51, 57, 50, 54] := by decide +kernel
set_option maxHeartbeats 1000000 in
set_option maxRecDepth 100000 in
theorem works_any (w : World) : Calls Try.prog 10 #[] w fun e w' => e = .returned (.bool true) ∧ Below w.heap.size w w' := by
  have cOf := ofl_of ex 3421780262 (by decide) (by decide +kernel)
  have cOf4 := ofl_of ex1 2615402659 (by decide) (by decide +kernel)
  have cMore := more_of ex2 2615402659 3421780262 (by decide) (by decide) (by decide +kernel)
  have cN := number_of exT 3421780262 num_ex
  have cT : ∀ W : World, Calls Try.prog 19 #[.int .u32 ((3421780262 : Nat) : Int)] W fun e w' => e = .returned (.string exT) ∧ Below W.heap.size W w' := fun W => by
    have := CrcS.text_any 3421780262 (by decide) W
    rwa [text_ex] at this
  have hT : exT.toList = [99, 98, 102, 52, 51, 57, 50, 54] := by decide +kernel
  have hT2 : (exT.toList == [99, 98, 102, 52, 51, 57, 50, 54]) = true := by rw [hT]; rfl
  have cS0 := step_of 0 0 0 (by decide) (by decide) (by decide +kernel)
  have cS1 := step_of 0 1 1996959894 (by decide) (by decide) (by decide +kernel)
  go_enter Try.func10, Try.ntmps10
  go_wp2_with fail
  refine (cOf _).mono ?_
  rintro e w1 ⟨rfl, hb1⟩
  go_wp2_with fail
  refine (cN _).mono ?_
  rintro e w2 ⟨rfl, hb2⟩
  go_wp2_with fail
  refine (cT _).mono ?_
  rintro e w3 ⟨rfl, hb3⟩
  go_wp2_with fail
  refine (cOf4 _).mono ?_
  rintro e w4 ⟨rfl, hb4⟩
  go_wp2_with fail
  refine (cMore _).mono ?_
  rintro e w5 ⟨rfl, hb5⟩
  go_wp2_with fail
  refine (cS0 _).mono ?_
  rintro e w6 ⟨rfl, hb6⟩
  go_wp2_with fail
  refine (cS1 _).mono ?_
  rintro e w7 ⟨rfl, hb7⟩
  go_wp2_with fail
  go_ret
  refine ⟨rfl, ?_⟩
  have b2 := hb1.trans (hb2.mono hb1.size)
  have b3 := b2.trans (hb3.mono b2.size)
  have b4 := b3.trans (hb4.mono b3.size)
  have b5 := b4.trans (hb5.mono b4.size)
  have b6 := b5.trans (hb6.mono b5.size)
  exact b6.trans (hb7.mono b6.size)
end Go.Proofs.Ytkejhcpaklefjaa.CrcW
