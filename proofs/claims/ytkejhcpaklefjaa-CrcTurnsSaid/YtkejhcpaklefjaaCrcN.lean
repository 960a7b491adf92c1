/- The walk of crc.Number: the number that eight digits are. -/
import Derived.Test.YtkejhcpaklefjaaCrcI
namespace Go.Proofs.Ytkejhcpaklefjaa.CrcN
open Go.RowKit Go.Proofs.Ytkejhcpaklefjaa.CrcS

/-- A digit's place; -1: it is none. -/
def dig (b : UInt8) : Int := Lib.indexByte digits.data.toList b
def numF (c : Nat) : List UInt8 → Option Nat
  | [] => some c
  | b :: r => if dig b < 0 then none else numF (c * 16 + (dig b).toNat) r
def numN (s : ByteArray) : Option Nat := if s.size = 8 then numF 0 s.data.toList else none
theorem indexByte_ge : ∀ (l : List UInt8) (b : UInt8), -1 ≤ Lib.indexByte l b ∧ Lib.indexByte l b < l.length
  | [], _ => by simp [Lib.indexByte]
  | x :: l, b => by
    have h := indexByte_ge l b
    rw [Lib.indexByte]
    split
    · simp only [List.length_cons]; omega
    · split
      · simp only [List.length_cons]; omega
      · simp only [List.length_cons]; omega
theorem dig_range (b : UInt8) : -1 ≤ dig b ∧ dig b < 16 := indexByte_ge digits.data.toList b
theorem dig_high (b : UInt8) (h : 128 ≤ b.toNat) : dig b = -1 := CrcI.indexByte_high _ _ (by decide) h
theorem rune_high (r : Int) (h : 128 ≤ r) (w : World) : Calls Try.prog 22 #[.string digits, .int .i32 r] w fun e w' => e = .returned (.int .i64 (-1)) ∧ Below w.heap.size w w' := by
  by_cases h1 : r = 65533
  · exact CrcI.rune_error r h1 w
  · cases hv : Utf8.valid r with
    | true => exact CrcI.rune_wide r h h1 hv w
    | false =>
      refine (CrcI.rune_bad digits r h h1 hv w).mono ?_
      rintro e w' ⟨rfl, rfl⟩
      exact ⟨rfl, Below.refl _ _⟩
theorem rune_low (b : UInt8) (h : b.toNat < 128) (w : World) : Calls Try.prog 22 #[.string digits, .int .i32 (b.toNat : Int)] w fun e w' => e = .returned (.int .i64 (dig b)) ∧ w' = w := by
  have := CrcI.rune_ascii digits (b.toNat : Int) (by omega) (by omega) w
  rw [Int.toNat_natCast, show b.toNat.toUInt8 = b by simp] at this
  exact this
theorem or16 (c n : Nat) (hc : c * 16 < 4294967296) (hn : n < 16) : bits .or .u32 ((c * 16 : Nat) : Int) (n : Int) = ((c * 16 + n : Nat) : Int) := by
  rw [u32_or_nat _ _ hc (by omega)]
  congr 1
  rw [show (16 : Nat) = 2 ^ 4 from rfl, Nat.mul_comm c]
  exact (Nat.two_pow_add_eq_or_of_lt (i := 4) (b := n) hn c).symm
theorem numF_drop (s : ByteArray) (p c : Nat) (h : p < s.size) : numF c (s.data.toList.drop p) = if dig s[p] < 0 then none else numF (c * 16 + (dig s[p]).toNat) (s.data.toList.drop (p + 1)) := by
  have hl : p < s.data.toList.length := by rw [Array.length_toList]; exact h
  rw [List.drop_eq_getElem_cons hl, numF]
  rfl
def NumPost (s : ByteArray) (w : World) (e : Ending) (w' : World) : Prop := e = .returned (.tuple #[.int .u32 ((numN s).getD 0 : Nat), .bool (numN s).isSome]) ∧ Below w.heap.size w w'
attribute [irreducible] dig numF
theorem iter_old (w : World) (s : ByteArray) (p : Nat) : Below w.heap.size w (w.iter s p) := (Below.refl _ _).alloc (Nat.le_refl _) _
set_option maxHeartbeats 2000000 in
set_option maxRecDepth 100000 in
theorem number_any (s : ByteArray) (w : World) : Calls Try.prog 17 #[.string s] w (NumPost s w) := by
  by_cases hs : s.size = 8
  · have q1 : decide ((s.size : Int) = 8) = true := decide_eq_true (by omega)
    have HN : Hid (numN s = numF 0 s.data.toList) := by unfold numN; rw [if_pos hs]; exact Lib.hid rfl
    have hib := Lib.hid (iter_old w s)
    have hend := Lib.hid (fun ty => run_next_end (P := Try.prog) w s 8 ty (by omega))
    have hd := Lib.hid (numF_drop s)
    have hlen : Hid (s.data.toList.drop 8 = []) := by rw [List.drop_eq_nil_iff.2 (by rw [Array.length_toList]; exact Nat.le_of_eq hs)]; exact Lib.hid rfl
    go_enter Try.func17, Try.ntmps17
    go_wp2_with fail
    clear q1
    go_loopw [4] (fun c' wr => ∃ p c : Nat, p ≤ 8 ∧ c < 16 ^ p ∧ Hid (numF 0 s.data.toList = numF c (s.data.toList.drop p)) ∧ c' = .int .u32 (c : Int) ∧ wr = w.iter s p) (fun _ wr => 8 - wr.iterPos w.heap.size)
    case atStart => exact ⟨0, 0, by omega, by omega, Lib.hid (by rw [List.drop_zero]), rfl, rfl⟩
    case round =>
      obtain ⟨p, c, hp, hc, HC, rfl, rfl⟩ := hrel
      by_cases hlt : p < 8
      · have hps : p < s.size := by omega
        have hcp : c < 16 ^ 7 := Nat.lt_of_lt_of_le hc (Nat.pow_le_pow_right (by omega) (by omega))
        have hcn : c * 16 < 4294967296 := by omega
        have hcn2 : IntKind.u32.wrap ((c : Int) * 16) = (c : Int) * 16 := by rw [IntKind.wrap_u32]; omega
        have HD := Lib.hid (hd.out p c hps)
        clear hd hend hs
        by_cases hb : (s[p]'hps).toNat < 128
        · have hnx := fun ty => run_next_ascii (P := Try.prog) w s p ty hps hb
          have cR := rune_low (s[p]'hps) hb
          obtain ⟨dn1, dn2⟩ := dig_range (s[p]'hps)
          generalize dig (s[p]'hps) = n at cR dn1 dn2 HD
          generalize ((s[p]'hps).toNat : Int) = r at cR hnx
          by_cases hn : n < 0
          · have hnone : Hid (numN s = none) := Lib.hid (by rw [HN.out, HC.out, HD.out, if_pos hn])
            clear HD HC HN
            go_wp2_with (go_at_call 22; refine (cR _).mono ?_; rintro e w' ⟨rfl, hw⟩; rw [hw])
            go_ret2
            exact ⟨by rw [hnone.out]; rfl, hib.out _⟩
          · obtain ⟨k, rfl⟩ : ∃ k : Nat, n = (k : Int) := ⟨n.toNat, by omega⟩
            have hk : k < 16 := by omega
            have hor : bits .or .u32 ((c : Int) * 16) (k : Int) = ((c * 16 + k : Nat) : Int) := or16 c k hcn hk
            have HS : Hid (numF 0 s.data.toList = numF (c * 16 + k) (s.data.toList.drop (p + 1))) := Lib.hid (by rw [HC.out, HD.out, if_neg hn]; rfl)
            have hcs : Hid (c * 16 + k < 16 ^ (p + 1)) := Lib.hid (by rw [Nat.pow_succ]; omega)
            clear HD HC hc hcp hcn
            go_wp2_with (go_at_call 22; refine (cR _).mono ?_; rintro e w' ⟨rfl, hw⟩; rw [hw])
            go_roundw
            case rel => exact ⟨p + 1, c * 16 + k, by omega, hcs.out, HS, rfl, rfl⟩
            case measure => simp; omega
        · obtain ⟨r, hr⟩ : ∃ r, r = (Utf8.decode s p).1 := ⟨_, rfl⟩
          have hdh := (decode_high s p hps (by omega)).1
          have hnx := fun ty => run_next_any (P := Try.prog) w s p ty hps
          rw [← hr] at hnx hdh
          generalize p + (Utf8.decode s p).2 = p' at hnx
          have hnone : Hid (numN s = none) := Lib.hid (by rw [HN.out, HC.out, HD.out, dig_high _ (by omega)]; rfl)
          clear hr HD HC HN
          have hib' := Lib.hid (iter_old w s p')
          go_wp2_with (go_at_call 22; refine (rune_high _ (by omega) _).mono ?_; rintro e w2 ⟨rfl, hw⟩; have hww := Lib.hid hw; clear hw)
          go_ret2
          exact ⟨by rw [hnone.out]; rfl, hib'.out.trans (hww.out.mono hib'.out.size)⟩
      · obtain rfl : p = 8 := by omega
        have hsome : Hid (numN s = some c) := Lib.hid (by rw [HN.out, HC.out, hlen.out, numF])
        have hx := hend.out
        clear HC HN hd hend hs
        go_wp2_with fail
        go_ret2
        exact ⟨by rw [hsome.out]; rfl, iter_old w s 8⟩
  · have q1 : ((s.size : Int) != 8) = true := by simp; omega
    have HN : Hid (numN s = none) := by unfold numN; rw [if_neg hs]; exact Lib.hid rfl
    clear hs
    go_enter Try.func17, Try.ntmps17
    go_wp2_with fail
    go_ret2
    exact ⟨by rw [HN.out]; rfl, Below.refl _ _⟩
end Go.Proofs.Ytkejhcpaklefjaa.CrcN
