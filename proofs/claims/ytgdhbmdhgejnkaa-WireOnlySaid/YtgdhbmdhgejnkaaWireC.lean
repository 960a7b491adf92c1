/- The contracts of wire's functions and of the reference's, in plain words. -/
import Derived.Test.YtgdhbmdhgejnkaaWireP
import Derived.Test.YtgdhbmdhgejnkaaExtWorks4
namespace Go.Proofs.Ytgdhbmdhgejnkaa.WireC
open Go.RowKit Go.Proofs.Ytgdhbmdhgejnkaa.Fn Go.Proofs.YtgdhbmdhgejnkaaW.PrintWords Go.Proofs.YtgdhbmdhgejnkaaW.PrintLast Go.Proofs.Ytgdhbmdhgejnkaa.WireM Go.Proofs.Ytgdhbmdhgejnkaa.WireP

theorem num_calls (n : Int) (W : World) : Calls Try.prog 14 #[.int .i64 n] W fun e w' => e = .returned (.string (B (numB (clampN n)))) ∧ Below W.heap.size W w' := by
  obtain ⟨k, h⟩ := (num_ev n).rounds
  exact wire_Num.calls k n _ W h
theorem refnum_calls (n : Int) (W : World) : Calls Try.prog 15 #[.int .i64 n] W fun e w' => e = .returned (.string (B (numB (clampN n)))) ∧ Below W.heap.size W w' := by
  obtain ⟨k, h⟩ := (refnum_ev n).rounds
  exact cenotaphref04_Num.calls k n _ W h
def numT (o : Option (Nat × List UInt8)) : Int × ByteArray × Bool :=
  match o with
  | some x => ((x.1 : Int), B x.2, true)
  | none => (0, ⟨#[]⟩, false)
theorem getnum_calls (s : ByteArray) (hz : s.size ≤ 9223372036854775807) (x : Int) (r : ByteArray) (b : Bool) (hx : numT (getNum (L s)) = (x, r, b)) (W : World) :
    Calls Try.prog 12 #[.string s] W fun e w' => e = .returned (.tuple #[.int .i64 x, .string r, .bool b]) ∧ Below W.heap.size W w' := by
  obtain ⟨k, h⟩ := (getnum_ev s hz).rounds
  exact wire_GetNum.calls k s x r b W (h.trans (congrArg some hx))
theorem text_calls (t : ByteArray) (h : t.size ≤ maxN) (W : World) : Calls Try.prog 22 #[.string t] W fun e w' => e = .returned (.string (B (text (L t)))) ∧ Below W.heap.size W w' := by
  obtain ⟨k, h⟩ := (text_ev t h).rounds
  exact wire_Text.calls k t _ W h
theorem reftext_calls (t : ByteArray) (h : t.size ≤ maxN) (W : World) : Calls Try.prog 23 #[.string t] W fun e w' => e = .returned (.string (B (text (L t)))) ∧ Below W.heap.size W w' := by
  obtain ⟨k, h⟩ := (reftextw_ev t h).rounds
  exact cenotaphref04_Text.calls k t _ W h
theorem gettext_calls (s : ByteArray) (hz : s.size ≤ 9223372036854775807) (most : Int) (x r : ByteArray) (b : Bool) (hx : tr (getText (L s) most) = (x, r, b)) (W : World) :
    Calls Try.prog 16 #[.string s, .int .i64 most] W fun e w' => e = .returned (.tuple #[.string x, .string r, .bool b]) ∧ Below W.heap.size W w' := by
  obtain ⟨k, h⟩ := (gettext_ev s hz most).rounds
  exact wire_GetText.calls k s most x r b W (h.trans (congrArg some hx))
theorem refgettext_calls (s : ByteArray) (hz : s.size ≤ 9223372036854775807) (most : Int) (x r : ByteArray) (b : Bool) (hx : tr (getText (L s) most) = (x, r, b)) (W : World) :
    Calls Try.prog 17 #[.string s, .int .i64 most] W fun e w' => e = .returned (.tuple #[.string x, .string r, .bool b]) ∧ Below W.heap.size W w' := by
  obtain ⟨k, h⟩ := (reftext_ev s hz most).rounds
  exact cenotaphref04_GetText.calls k s most x r b W (h.trans (congrArg some hx))
theorem frame_calls (t : ByteArray) (h : t.size ≤ maxN) (W : World) : Calls Try.prog 26 #[.string t] W fun e w' => e = .returned (.string (B (frame (L t)))) ∧ Below W.heap.size W w' := by
  obtain ⟨k, h⟩ := (frame_ev t h).rounds
  exact wire_Frame.calls k t _ W h
theorem refframe_calls (t : ByteArray) (h : t.size ≤ maxN) (W : World) : Calls Try.prog 27 #[.string t] W fun e w' => e = .returned (.string (B (frame (L t)))) ∧ Below W.heap.size W w' := by
  obtain ⟨k, h⟩ := (refframe_ev t h).rounds
  exact cenotaphref04_Frame.calls k t _ W h
theorem getframe_calls (s : ByteArray) (hz : s.size ≤ 9223372036854775807) (x r : ByteArray) (b : Bool) (hx : tr (getFrame (L s)) = (x, r, b)) (W : World) :
    Calls Try.prog 20 #[.string s] W fun e w' => e = .returned (.tuple #[.string x, .string r, .bool b]) ∧ Below W.heap.size W w' := by
  obtain ⟨k, h⟩ := (getframe_ev s hz).rounds
  exact wire_GetFrame.calls k s x r b W (h.trans (congrArg some hx))
theorem refgetframe_calls (s : ByteArray) (hz : s.size ≤ 9223372036854775807) (x r : ByteArray) (b : Bool) (hx : tr (getFrame (L s)) = (x, r, b)) (W : World) :
    Calls Try.prog 21 #[.string s] W fun e w' => e = .returned (.tuple #[.string x, .string r, .bool b]) ∧ Below W.heap.size W w' := by
  obtain ⟨k, h⟩ := (refgetframe_ev s hz).rounds
  exact cenotaphref04_GetFrame.calls k s x r b W (h.trans (congrArg some hx))

/-! ### Digests, both ways -/
open Go.Proofs.Ytgdhbmdhgejnkaa.WireD (dcells zeros32)
/-- What GetSum tells: the digest's bytes, the rest, is there one. -/
def sumT (s : ByteArray) : ByteArray × ByteArray × Bool := if s.size < 32 then (zeros32, ⟨#[]⟩, false) else (s.extract 0 32, s.extract 32 s.size, true)
theorem sumT_size (s : ByteArray) : (sumT s).1.size = 32 := by
  unfold sumT
  split
  · exact WireD.zeros32_size
  · simp; omega
theorem getsum_calls (s : ByteArray) (hz : s.size ≤ 9223372036854775807) (x r : ByteArray) (b : Bool) (hx : sumT s = (x, r, b)) (W : World) :
    Calls Try.prog 18 #[.string s] W fun e w' => e = .returned (.tuple #[.agg (dcells x), .string r, .bool b]) ∧ Below W.heap.size W w' := by
  unfold sumT at hx
  split at hx
  · rename_i h
    simp only [Prod.mk.injEq] at hx
    obtain ⟨rfl, rfl, rfl⟩ := hx
    exact WireD.getsum_no s h W
  · rename_i h
    simp only [Prod.mk.injEq] at hx
    obtain ⟨rfl, rfl, rfl⟩ := hx
    exact WireD.getsum_yes s (by omega) hz W
theorem refgetsum_calls (s : ByteArray) (x r : ByteArray) (b : Bool) (hx : sumT s = (x, r, b)) (W : World) :
    Calls Try.prog 19 #[.string s] W fun e w' => e = .returned (.tuple #[.agg (dcells x), .string r, .bool b]) ∧ Below W.heap.size W w' := by
  unfold sumT at hx
  split at hx
  · rename_i h
    simp only [Prod.mk.injEq] at hx
    obtain ⟨rfl, rfl, rfl⟩ := hx
    exact WireD.refgetsum_no s h W
  · rename_i h
    simp only [Prod.mk.injEq] at hx
    obtain ⟨rfl, rfl, rfl⟩ := hx
    exact WireD.refgetsum_yes s (by omega) W
end Go.Proofs.Ytgdhbmdhgejnkaa.WireC
