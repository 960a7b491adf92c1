/- The walk of page.Put. -/
import Derived.Test.YtobkeakbahkglaaPageM
import Derived.WalkKit
import Derived.KernelRfl
import Derived.Outline
import Derived.Lib.Hide
set_option linter.unusedVariables false
namespace Go.Proofs.Ytobkeakbahkglaa.PageP
open Go.RowKit Go.Proofs.Ytobkeakbahkglaa.Fn Go.Proofs.YtobkeakbahkglaaW.PrintWords Go.Proofs.YtobkeakbahkglaaW.PrintLast Go.Proofs.Ytobkeakbahkglaa.WireM Go.Proofs.Ytobkeakbahkglaa.WireP Go.Proofs.Ytobkeakbahkglaa.PageM

theorem num_calls (n : Int) (W : World) : Calls Try.prog 26 #[.int .i64 n] W fun e w' => e = .returned (.string (B (numB (clampN n)))) ∧ Below W.heap.size W w' := by
  obtain ⟨k, h⟩ := (num_ev n).rounds
  exact wire_Num.calls k n _ W h
def numT (o : Option (Nat × List UInt8)) : Int × ByteArray × Bool :=
  match o with
  | some x => ((x.1 : Int), B x.2, true)
  | none => (0, ⟨#[]⟩, false)
theorem getnum_calls (s : ByteArray) (hz : s.size ≤ 9223372036854775807) (x : Int) (r : ByteArray) (b : Bool) (hx : numT (getNum (L s)) = (x, r, b)) (W : World) :
    Calls Try.prog 40 #[.string s] W fun e w' => e = .returned (.tuple #[.int .i64 x, .string r, .bool b]) ∧ Below W.heap.size W w' := by
  obtain ⟨k, h⟩ := (getnum_ev s hz).rounds
  exact wire_GetNum.calls k s x r b W (h.trans (congrArg some hx))
theorem frame_calls (t : ByteArray) (h : t.size ≤ maxN) (W : World) : Calls Try.prog 27 #[.string t] W fun e w' => e = .returned (.string (B (frame (L t)))) ∧ Below W.heap.size W w' := by
  obtain ⟨k, h⟩ := (frame_ev t h).rounds
  exact wire_Frame.calls k t _ W h
theorem getframe_calls (s : ByteArray) (hz : s.size ≤ 9223372036854775807) (x r : ByteArray) (b : Bool) (hx : tr (getFrame (L s)) = (x, r, b)) (W : World) :
    Calls Try.prog 21 #[.string s] W fun e w' => e = .returned (.tuple #[.string x, .string r, .bool b]) ∧ Below W.heap.size W w' := by
  obtain ⟨k, h⟩ := (getframe_ev s hz).rounds
  exact wire_GetFrame.calls k s x r b W (h.trans (congrArg some hx))
theorem valid_calls (k s o l : Int) (t : ByteArray) (W : World) : Calls Try.prog 13 #[.agg #[.int .i64 k, .int .i64 s, .int .i64 o, .int .i64 l, .string t]] W fun e w' => e = .returned (.bool (valid k s o l t)) ∧ Below W.heap.size W w' := by
  obtain ⟨f, h⟩ := (valid_ev k s o l t).rounds
  exact page_Valid.calls f k s o l t _ W h
/-- A page in a block of its own. -/
structure PAt (w : World) (g : Nat) (k s o l : Int) (t : ByteArray) (W : World) : Prop where
  h : W.heap[g]? = some (.cells #[.int .i64 k, .int .i64 s, .int .i64 o, .int .i64 l, .string t] 24 (0, 0))
  lo : w.heap.size ≤ g
  b : Below w.heap.size w W
section
variable {w W W' : World} {g : Nat} {k s o l : Int} {t : ByteArray}
theorem PAt.below (h : PAt w g k s o l t W) (hb : Below W.heap.size W W') : PAt w g k s o l t W' :=
  ⟨(hb.block g (Array.getElem?_eq_some_iff.1 h.h).1).trans h.h, h.lo, h.b.trans (hb.mono h.b.size)⟩
theorem PAt.c0 (h : PAt w g k s o l t W) : W.cell? ⟨g, 0, none⟩ = some (.int .i64 k) := by rw [cell_of_row _ _ _ _ _ _ h.h]; rfl
theorem PAt.c1 (h : PAt w g k s o l t W) : W.cell? ⟨g, 1, none⟩ = some (.int .i64 s) := by rw [cell_of_row _ _ _ _ _ _ h.h]; rfl
theorem PAt.c2 (h : PAt w g k s o l t W) : W.cell? ⟨g, 2, none⟩ = some (.int .i64 o) := by rw [cell_of_row _ _ _ _ _ _ h.h]; rfl
theorem PAt.c3 (h : PAt w g k s o l t W) : W.cell? ⟨g, 3, none⟩ = some (.int .i64 l) := by rw [cell_of_row _ _ _ _ _ _ h.h]; rfl
theorem PAt.c4 (h : PAt w g k s o l t W) : W.cell? ⟨g, 4, none⟩ = some (.string t) := by rw [cell_of_row _ _ _ _ _ _ h.h]; rfl
end
theorem PAt.new (w : World) (k s o l : Int) (t : ByteArray) : PAt w w.heap.size k s o l t (w.alloc (.cells #[.int .i64 k, .int .i64 s, .int .i64 o, .int .i64 l, .string t] 24)) :=
  ⟨by show (w.heap.push _)[w.heap.size]? = _; simp, Nat.le_refl _, (Below.refl _ _).alloc (Nat.le_refl _) _⟩
/-- The first numbers' bytes. -/
def pre (k s o l : Int) : Nat → List UInt8
  | 0 => []
  | 1 => numB (clampN k)
  | 2 => numB (clampN k) ++ numB (clampN s)
  | 3 => numB (clampN k) ++ numB (clampN s) ++ numB (clampN o)
  | _ => numB (clampN k) ++ numB (clampN s) ++ numB (clampN o) ++ numB (clampN l)
theorem pre_len (k s o l : Int) (i : Nat) : (B (pre k s o l i)).size ≤ 32 := by
  rw [B_size]
  have := numB_small k
  have := numB_small s
  have := numB_small o
  have := numB_small l
  unfold pre
  split <;> (try simp only [List.length_append, List.length_nil]) <;> omega
theorem ix0 (w : World) (k s o l : Int) : (Instr.index 62 (.agg #[.int .i64 k, .int .i64 s, .int .i64 o, .int .i64 l]) (.int .i64 0)).run Try.prog w = .ok (.int .i64 k) w := by kernel_rfl
theorem ix1 (w : World) (k s o l : Int) : (Instr.index 62 (.agg #[.int .i64 k, .int .i64 s, .int .i64 o, .int .i64 l]) (.int .i64 1)).run Try.prog w = .ok (.int .i64 s) w := by kernel_rfl
theorem ix2 (w : World) (k s o l : Int) : (Instr.index 62 (.agg #[.int .i64 k, .int .i64 s, .int .i64 o, .int .i64 l]) (.int .i64 2)).run Try.prog w = .ok (.int .i64 o) w := by kernel_rfl
theorem ix3 (w : World) (k s o l : Int) : (Instr.index 62 (.agg #[.int .i64 k, .int .i64 s, .int .i64 o, .int .i64 l]) (.int .i64 3)).run Try.prog w = .ok (.int .i64 l) w := by kernel_rfl
set_option maxHeartbeats 4000000 in
set_option maxRecDepth 100000 in
theorem put_any (k s o l : Int) (t : ByteArray) (w : World) :
    Calls Try.prog 14 #[.agg #[.int .i64 k, .int .i64 s, .int .i64 o, .int .i64 l, .string t]] w fun e w' => e = .returned (.string (put k s o l t)) ∧ Below w.heap.size w w' := by
  unfold put
  have pv := valid_calls k s o l t
  generalize hv : valid k s o l t = vb at pv ⊢
  go_enter Try.func14, Try.ntmps14
  have hP := PAt.new w k s o l t
  go_wp2_with fail
  refine (pv _).mono ?_
  rintro e w1 ⟨rfl, hb⟩
  replace hP := hP.below hb
  clear hb pv
  cases vb with
  | false =>
    go_wp2_with fail
    go_ret
    exact ⟨rfl, hP.b⟩
  | true =>
    have c0 := hP.c0
    have c1 := hP.c1
    have c2 := hP.c2
    have c3 := hP.c3
    have hP0 := Lib.hid hP
    clear hP
    go_wp2_with fail
    go_loopw [18, 3] (fun i v W => ∃ (j : Nat) (x : Int), j ≤ 4 ∧ x = (j : Int) ∧ i = .int .i64 x ∧ v = .string (B (pre k s o l j)) ∧ Hid (PAt w w.heap.size k s o l t W)) (fun i _ _ => 4 - (intOf i).toNat)
    case atStart => exact ⟨0, 0, by omega, rfl, rfl, rfl, hP0⟩
    case round =>
      clear hP0 c0 c1 c2 c3
      obtain ⟨j, x, hj, hx, rfl, rfl, hP⟩ := hrel
      have hj4 : j = 0 ∨ j = 1 ∨ j = 2 ∨ j = 3 ∨ j = 4 := by omega
      rcases hj4 with rfl | rfl | rfl | rfl | rfl
      · obtain rfl : x = 0 := hx
        have hix := ix0 wr k s o l
        have pn := num_calls k wr
        go_wp2_with fail
        refine pn.mono ?_
        rintro e w2 ⟨rfl, hb⟩
        have hP2 := Lib.hid (hP.out.below hb)
        clear hP hb pn
        have hsz := pre_len k s o l 0
        have hs2 := numB_small k
        rw [← B_size] at hs2
        have hap : B (pre k s o l 0) ++ B (numB (clampN k)) = B (pre k s o l 1) := by rw [B_append]; rfl
        have hg1 : (9223372036854775807 < (B (pre k s o l 0)).size + (B (numB (clampN k))).size) = False := eq_false (by omega)
        go_wp2_with fail
        go_roundw
        case rel => exact ⟨1, 1, by omega, rfl, by go_num, rfl, hP2⟩
        case measure => simp [intOf]
      · obtain rfl : x = 1 := hx
        have hix := ix1 wr k s o l
        have pn := num_calls s wr
        go_wp2_with fail
        refine pn.mono ?_
        rintro e w2 ⟨rfl, hb⟩
        have hP2 := Lib.hid (hP.out.below hb)
        clear hP hb pn
        have hsz := pre_len k s o l 1
        have hs2 := numB_small s
        rw [← B_size] at hs2
        have hap : B (pre k s o l 1) ++ B (numB (clampN s)) = B (pre k s o l 2) := by rw [B_append]; rfl
        have hg1 : (9223372036854775807 < (B (pre k s o l 1)).size + (B (numB (clampN s))).size) = False := eq_false (by omega)
        go_wp2_with fail
        go_roundw
        case rel => exact ⟨2, 2, by omega, rfl, by go_num, rfl, hP2⟩
        case measure => simp [intOf]
      · obtain rfl : x = 2 := hx
        have hix := ix2 wr k s o l
        have pn := num_calls o wr
        go_wp2_with fail
        refine pn.mono ?_
        rintro e w2 ⟨rfl, hb⟩
        have hP2 := Lib.hid (hP.out.below hb)
        clear hP hb pn
        have hsz := pre_len k s o l 2
        have hs2 := numB_small o
        rw [← B_size] at hs2
        have hap : B (pre k s o l 2) ++ B (numB (clampN o)) = B (pre k s o l 3) := by rw [B_append]; rfl
        have hg1 : (9223372036854775807 < (B (pre k s o l 2)).size + (B (numB (clampN o))).size) = False := eq_false (by omega)
        go_wp2_with fail
        go_roundw
        case rel => exact ⟨3, 3, by omega, rfl, by go_num, rfl, hP2⟩
        case measure => simp [intOf]
      · obtain rfl : x = 3 := hx
        have hix := ix3 wr k s o l
        have pn := num_calls l wr
        go_wp2_with fail
        refine pn.mono ?_
        rintro e w2 ⟨rfl, hb⟩
        have hP2 := Lib.hid (hP.out.below hb)
        clear hP hb pn
        have hsz := pre_len k s o l 3
        have hs2 := numB_small l
        rw [← B_size] at hs2
        have hap : B (pre k s o l 3) ++ B (numB (clampN l)) = B (pre k s o l 4) := by rw [B_append]; rfl
        have hg1 : (9223372036854775807 < (B (pre k s o l 3)).size + (B (numB (clampN l))).size) = False := eq_false (by omega)
        go_wp2_with fail
        go_roundw
        case rel => exact ⟨4, 4, by omega, rfl, by go_num, rfl, hP2⟩
        case measure => simp [intOf]
      · obtain rfl : x = 4 := hx
        have c4 := hP.out.c4
        have hv2 := valid_parts hv
        have hsz := pre_len k s o l 4
        have hap : B (pre k s o l 4) ++ t = B (body k s o l t) := L_inj (by rw [L_append]; rfl)
        have hfs : (B (body k s o l t)).size ≤ maxN := by rw [B_size]; have := body_length k s o l t; unfold maxN; omega
        have pf := frame_calls (B (body k s o l t)) hfs wr
        rw [← hap] at pf
        have hg1 : (9223372036854775807 < (B (pre k s o l 4)).size + t.size) = False := eq_false (by omega)
        clear hv2
        go_wp2_with fail
        refine pf.mono ?_
        rintro e w2 ⟨rfl, hb⟩
        go_wp2_with fail
        go_ret
        exact ⟨rfl, (hP.out.below hb).b⟩
end Go.Proofs.Ytobkeakbahkglaa.PageP
