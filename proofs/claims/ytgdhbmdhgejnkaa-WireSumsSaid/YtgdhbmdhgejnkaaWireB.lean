/- cenotaphlaw04.WireBack: it returns true, whatever it is given. -/
import Derived.Test.YtgdhbmdhgejnkaaWireO
namespace Go.Proofs.Ytgdhbmdhgejnkaa.WireB
open Go.RowKit Go.Proofs.Ytgdhbmdhgejnkaa.Fn Go.Proofs.YtgdhbmdhgejnkaaW.PrintWords Go.Proofs.YtgdhbmdhgejnkaaW.PrintLast Go.Proofs.Ytgdhbmdhgejnkaa.WireD Go.Proofs.Ytgdhbmdhgejnkaa.WireM Go.Proofs.Ytgdhbmdhgejnkaa.WireP Go.Proofs.Ytgdhbmdhgejnkaa.WireC Go.Proofs.Ytgdhbmdhgejnkaa.WireO

theorem run_op_eqD {o : Oper} {a : Act} {x y : Operand} (s : ByteArray) (h : s.size = 32) (w : World) (ho : o.op = .binOp .eql 28 x y 28) (hx : a.eval x = .agg (dcells s)) (hy : a.eval y = .agg (dcells s)) :
    (execOp a.eval o).run Try.prog w = .ok (.value (.bool true)) w := by
  have he := eq_same s h w
  simp [execOp, ho, hx, hy, he, guard_same]
theorem num_size (n : Int) : (B (numB (clampN n))).size ≤ 8 := by
  rw [size_L, L_B]
  exact numB_len8 (clampN_le n)
theorem text_size (t : ByteArray) (h : t.size ≤ maxN) : (B (text (L t))).size ≤ t.size + 8 := by
  have h2 : (numB (L t).length).length ≤ 8 := numB_len8 (by rw [← size_L]; exact h)
  rw [size_L, L_B, text, List.length_append, size_L t]
  omega
theorem frame_size (t : ByteArray) (h : t.size ≤ maxN) : (B (frame (L t))).size ≤ t.size + 12 := by
  have := text_size t h
  rw [size_L, L_B, frame, List.length_append, le4_length]
  rw [size_L, L_B] at this
  omega
theorem getnum_back (n : Int) (h0 : 0 ≤ n) (h1 : n ≤ 1125899906842624) (rest : ByteArray) (hr : rest.size ≤ 300) (W : World) :
    Calls Try.prog 12 #[.string (B (numB (clampN n)) ++ rest)] W fun e w' => e = .returned (.tuple #[.int .i64 n, .string rest, .bool true]) ∧ Below W.heap.size W w' := by
  refine getnum_calls _ ?_ n rest true ?_ W
  · rw [ByteArray.size_append]
    have := num_size n
    omega
  · rw [L_append, L_B, getNum_numB (clampN_le n)]
    unfold numT
    rw [clampN_in h0 h1]
    simp
    omega
theorem gettext_back (t rest : ByteArray) (ht : t.size ≤ 300) (hr : rest.size ≤ 300) (most : Int) (hm : (t.size : Int) ≤ most) (W : World) :
    Calls Try.prog 16 #[.string (B (text (L t)) ++ rest), .int .i64 most] W fun e w' => e = .returned (.tuple #[.string t, .string rest, .bool true]) ∧ Below W.heap.size W w' := by
  have hn : t.size ≤ maxN := by unfold maxN; omega
  refine gettext_calls _ ?_ most t rest true ?_ W
  · rw [ByteArray.size_append]
    have := text_size t hn
    omega
  · rw [L_append, L_B, getText_text _ _ _ (by rw [← size_L]; exact hn) (by rw [← size_L]; exact hm)]
    rfl
theorem gettext_short (t rest : ByteArray) (ht : t.size ≤ 300) (hr : rest.size ≤ 300) (most : Int) (hm : most < (t.size : Int)) (W : World) :
    Calls Try.prog 16 #[.string (B (text (L t)) ++ rest), .int .i64 most] W fun e w' => e = .returned (.tuple #[.string ⟨#[]⟩, .string ⟨#[]⟩, .bool false]) ∧ Below W.heap.size W w' := by
  have hn : t.size ≤ maxN := by unfold maxN; omega
  refine gettext_calls _ ?_ most ⟨#[]⟩ ⟨#[]⟩ false ?_ W
  · rw [ByteArray.size_append]
    have := text_size t hn
    omega
  · rw [L_append, L_B, getText_long _ _ _ (by rw [← size_L]; exact hn) (by rw [← size_L]; exact hm)]
    rfl
theorem getframe_back (t rest : ByteArray) (ht : t.size ≤ 300) (hr : rest.size ≤ 300) (W : World) :
    Calls Try.prog 20 #[.string (B (frame (L t)) ++ rest)] W fun e w' => e = .returned (.tuple #[.string t, .string rest, .bool true]) ∧ Below W.heap.size W w' := by
  have hn : t.size ≤ maxN := by unfold maxN; omega
  refine getframe_calls _ ?_ t rest true ?_ W
  · rw [ByteArray.size_append]
    have := frame_size t hn
    omega
  · rw [L_append, L_B, getFrame_frame _ _ (by rw [← size_L]; omega)]
    rfl
theorem getsum_back (d rest : ByteArray) (hd : d.size = 32) (hr : rest.size ≤ 300) (W : World) :
    Calls Try.prog 18 #[.string (d ++ rest)] W fun e w' => e = .returned (.tuple #[.agg (dcells d), .string rest, .bool true]) ∧ Below W.heap.size W w' := by
  have hs : (d ++ rest).size = 32 + rest.size := by rw [ByteArray.size_append, hd]
  refine getsum_calls _ (by omega) d rest true ?_ W
  unfold sumT
  rw [if_neg (by omega)]
  have e1 : (d ++ rest).extract 0 32 = d := by
    apply L_inj
    rw [L_extract, L_append, List.drop_zero, Nat.sub_zero, ← hd, size_L, List.take_left]
  have e2 : (d ++ rest).extract 32 (d ++ rest).size = rest := by
    apply L_inj
    rw [L_extract, L_append, size_L (d ++ rest), L_append, ← hd, size_L d, List.drop_left, List.length_append, Nat.add_sub_cancel_left, List.take_length]
  rw [e1, e2]
set_option maxHeartbeats 40000000 in
set_option maxRecDepth 100000 in
theorem back_any (n : Int) (t d rest : ByteArray) (hds : d.size = 32) (w : World) : Calls Try.prog 5 #[.int .i64 n, .string t, .agg (dcells d), .string rest] w fun e w' => e = .returned (.bool true) ∧ Below w.heap.size w w' := by
  have hz0 := zeroD
  by_cases c1 : 300 < t.size
  · have q1 : decide (300 < (t.size : Int)) = true := decide_eq_true (by omega); have q2 : decide (300 < t.size) = true := decide_eq_true c1; clear c1
    go_enter Try.func5, Try.ntmps5
    go_wp2_with fail
    refine (WireW.works_any _).mono ?_
    rintro e w1 ⟨rfl, hb⟩
    go_wp2_with fail
    go_ret
    exact ⟨rfl, below_step (by repeat (first | exact Below.refl _ _ | apply below_alloc)) hb⟩
  have q1 : decide (300 < (t.size : Int)) = false := decide_eq_false (by omega)
  have q2 : decide (300 < t.size) = false := decide_eq_false c1
  by_cases c2 : 300 < rest.size
  · have q3 : decide (300 < (rest.size : Int)) = true := decide_eq_true (by omega); have q4 : decide (300 < rest.size) = true := decide_eq_true c2; clear c1 c2
    go_enter Try.func5, Try.ntmps5
    go_wp2_with fail
    refine (WireW.works_any _).mono ?_
    rintro e w1 ⟨rfl, hb⟩
    go_wp2_with fail
    go_ret
    exact ⟨rfl, below_step (by repeat (first | exact Below.refl _ _ | apply below_alloc)) hb⟩
  have q3 : decide (300 < (rest.size : Int)) = false := decide_eq_false (by omega)
  have q4 : decide (300 < rest.size) = false := decide_eq_false c2
  by_cases c3 : n < 0
  · have q5 : decide (n < 0) = true := decide_eq_true c3; clear c1 c2 c3
    go_enter Try.func5, Try.ntmps5
    go_wp2_with fail
    refine (WireW.works_any _).mono ?_
    rintro e w1 ⟨rfl, hb⟩
    go_wp2_with fail
    go_ret
    exact ⟨rfl, below_step (by repeat (first | exact Below.refl _ _ | apply below_alloc)) hb⟩
  have q5 : decide (n < 0) = false := decide_eq_false c3
  by_cases c4 : (1125899906842624 : Int) < n
  · have q6 : decide ((1125899906842624 : Int) < n) = true := decide_eq_true c4; clear c1 c2 c3 c4
    go_enter Try.func5, Try.ntmps5
    go_wp2_with fail
    refine (WireW.works_any _).mono ?_
    rintro e w1 ⟨rfl, hb⟩
    go_wp2_with fail
    go_ret
    exact ⟨rfl, below_step (by repeat (first | exact Below.refl _ _ | apply below_alloc)) hb⟩
  · have q6 : decide ((1125899906842624 : Int) < n) = false := decide_eq_false c4
    have hn : t.size ≤ maxN := by unfold maxN; omega
    have cN := num_calls n
    have cGN := getnum_back n (by omega) (by omega) rest (by omega)
    have zN : (B (numB (clampN n))).size + rest.size ≤ 9223372036854775807 := by have := num_size n; omega
    have cT := text_calls t hn
    have cGT := gettext_back t rest (by omega) (by omega) (t.size : Int) (by omega)
    have cGS := gettext_short t rest (by omega) (by omega) ((t.size : Int) - 1) (by omega)
    have zT : (B (text (L t))).size + rest.size ≤ 9223372036854775807 := by have := text_size t hn; omega
    have cF := frame_calls t hn
    have cGF := getframe_back t rest (by omega) (by omega)
    have zF : (B (frame (L t))).size + rest.size ≤ 9223372036854775807 := by have := frame_size t hn; omega
    have cGD := getsum_back d rest hds (by omega)
    have zD : d.size + rest.size ≤ 9223372036854775807 := by omega
    have ht := Aside0.mk (show (t.size : Int) ≤ 300 by omega)
    have hw1 : IntKind.i64.wrap ((t.size : Int) - 1) = (t.size : Int) - 1 := by simp [IntKind.wrap, IntKind.signed, IntKind.bits]; omega
    clear hn c1 c2 c3 c4
    generalize B (numB (clampN n)) = bn at cN cGN zN
    generalize B (text (L t)) = bt at cT cGT cGS zT
    generalize B (frame (L t)) = bf at cF cGF zF
    have HB := Aside0.mk (Below.refl w.heap.size w)
    have g6 := Lib.hid (heap_alloc_new w (.cells (dcells d) 28))
    go_enter Try.func5, Try.ntmps5
    go_wp2_with fail
    refine (WireW.works_any _).mono ?_
    rintro e w1 ⟨rfl, hb⟩
    have n0_ := Aside0.mk (below_step (by repeat (first | exact HB.out | apply below_alloc)) hb); clear HB; have HB := n0_; clear n0_
    have g0_ := Lib.hid ((hb.block _ (Array.getElem?_eq_some_iff.1 g6.out).1).trans g6.out); clear g6; have g6 := g0_; clear g0_
    clear hb
    go_wp2_with fail
    refine (cN _).mono ?_
    rintro e w2 ⟨rfl, hb⟩
    have n0_ := Aside0.mk (below_step (by repeat (first | exact HB.out | apply below_alloc)) hb); clear HB; have HB := n0_; clear n0_
    have g0_ := Lib.hid ((hb.block _ (Array.getElem?_eq_some_iff.1 g6.out).1).trans g6.out); clear g6; have g6 := g0_; clear g0_
    clear hb
    go_wp2_with fail
    refine (cGN _).mono ?_
    rintro e w3 ⟨rfl, hb⟩
    have n0_ := Aside0.mk (below_step (by repeat (first | exact HB.out | apply below_alloc)) hb); clear HB; have HB := n0_; clear n0_
    have g0_ := Lib.hid ((hb.block _ (Array.getElem?_eq_some_iff.1 g6.out).1).trans g6.out); clear g6; have g6 := g0_; clear g0_
    clear hb
    go_wp2_with fail
    refine (cT _).mono ?_
    rintro e w4 ⟨rfl, hb⟩
    have n0_ := Aside0.mk (below_step (by repeat (first | exact HB.out | apply below_alloc)) hb); clear HB; have HB := n0_; clear n0_
    have g0_ := Lib.hid ((hb.block _ (Array.getElem?_eq_some_iff.1 g6.out).1).trans g6.out); clear g6; have g6 := g0_; clear g0_
    clear hb
    go_wp2_with fail
    refine (cGT _).mono ?_
    rintro e w5 ⟨rfl, hb⟩
    have n0_ := Aside0.mk (below_step (by repeat (first | exact HB.out | apply below_alloc)) hb); clear HB; have HB := n0_; clear n0_
    have g0_ := Lib.hid ((hb.block _ (Array.getElem?_eq_some_iff.1 g6.out).1).trans g6.out); clear g6; have g6 := g0_; clear g0_
    clear hb
    go_wp2_with (refine wpList_load_row rfl 28 (.tmp 6) rfl w.heap.size rfl 28 (dcells d) (0, 0) _ g6.out Try.underlying28 rfl (by rw [sizeD, dcells_size, hds]) ?_)
    refine (sum_any d hds _).mono ?_
    rintro e w6 ⟨rfl, hb⟩
    have n0_ := Aside0.mk (below_step (by repeat (first | exact HB.out | apply below_alloc)) hb); clear HB; have HB := n0_; clear n0_
    have g0_ := Lib.hid ((hb.block _ (Array.getElem?_eq_some_iff.1 g6.out).1).trans g6.out); clear g6; have g6 := g0_; clear g0_
    clear hb
    go_wp2_with fail
    refine (cGD _).mono ?_
    rintro e w7 ⟨rfl, hb⟩
    have n0_ := Aside0.mk (below_step (by repeat (first | exact HB.out | apply below_alloc)) hb); clear HB; have HB := n0_; clear n0_
    have g0_ := Lib.hid ((hb.block _ (Array.getElem?_eq_some_iff.1 g6.out).1).trans g6.out); clear g6; have g6 := g0_; clear g0_
    clear hb
    go_wp2_with (refine wpList_store_row rfl 28 (.tmp 16) (.tmp 71) rfl w7.heap.size (dcells d) rfl rfl 28 zcells (heap_alloc_new _ _) (by rw [sizeD, dcells_size, hds]) (by rw [zcells_size, dcells_size, hds]) (dcells_one _) ?_; rw [World.setRow_alloc_new])
    have g16 := Lib.hid (heap_alloc_new w7 (.cells (dcells d) 28))
    have g6b := Lib.hid ((heap_alloc_old w7 (.cells (dcells d) 28) (Array.getElem?_eq_some_iff.1 g6.out).1).trans g6.out)
    clear g6
    have g6 := g6b
    clear g6b
    refine (cF _).mono ?_
    rintro e w8 ⟨rfl, hb⟩
    have n0_ := Aside0.mk (below_step (by repeat (first | exact HB.out | apply below_alloc)) hb); clear HB; have HB := n0_; clear n0_
    have g0_ := Lib.hid ((hb.block _ (Array.getElem?_eq_some_iff.1 g6.out).1).trans g6.out); clear g6; have g6 := g0_; clear g0_
    have g0_ := Lib.hid ((hb.block _ (Array.getElem?_eq_some_iff.1 g16.out).1).trans g16.out); clear g16; have g16 := g0_; clear g0_
    clear hb
    go_wp2_with fail
    refine (cGF _).mono ?_
    rintro e w9 ⟨rfl, hb⟩
    have n0_ := Aside0.mk (below_step (by repeat (first | exact HB.out | apply below_alloc)) hb); clear HB; have HB := n0_; clear n0_
    have g0_ := Lib.hid ((hb.block _ (Array.getElem?_eq_some_iff.1 g6.out).1).trans g6.out); clear g6; have g6 := g0_; clear g0_
    have g0_ := Lib.hid ((hb.block _ (Array.getElem?_eq_some_iff.1 g16.out).1).trans g16.out); clear g16; have g16 := g0_; clear g0_
    clear hb
    go_wp2_with fail
    refine (cT _).mono ?_
    rintro e w10 ⟨rfl, hb⟩
    have n0_ := Aside0.mk (below_step (by repeat (first | exact HB.out | apply below_alloc)) hb); clear HB; have HB := n0_; clear n0_
    have g0_ := Lib.hid ((hb.block _ (Array.getElem?_eq_some_iff.1 g6.out).1).trans g6.out); clear g6; have g6 := g0_; clear g0_
    have g0_ := Lib.hid ((hb.block _ (Array.getElem?_eq_some_iff.1 g16.out).1).trans g16.out); clear g16; have g16 := g0_; clear g0_
    clear hb
    go_wp2_with fail
    refine (cGS _).mono ?_
    rintro e w11 ⟨rfl, hb⟩
    have n0_ := Aside0.mk (below_step (by repeat (first | exact HB.out | apply below_alloc)) hb); clear HB; have HB := n0_; clear n0_
    have g0_ := Lib.hid ((hb.block _ (Array.getElem?_eq_some_iff.1 g6.out).1).trans g6.out); clear g6; have g6 := g0_; clear g0_
    have g0_ := Lib.hid ((hb.block _ (Array.getElem?_eq_some_iff.1 g16.out).1).trans g16.out); clear g16; have g16 := g0_; clear g0_
    clear hb
    go_wp2_with ((refine wpList_on (v := .agg (dcells d)) ?_ ?_ ?_; rotate_left; (focus refine Calm.run_op_load (ty := 28) (x := .tmp 16) (u := .pointer (some ⟨w7.heap.size, 0, none⟩)) rfl rfl ?_; simp only [Instr.loadAt, Instr.sureAddr, Sem.run_bind, Sem.run_pure, Result.andThen_ok]; exact run_loadVar_row (P := Try.prog) _ w7.heap.size 28 28 (dcells d) (0, 0) _ g16.out Try.underlying28 rfl (by rw [sizeD, dcells_size, hds])); rotate_left; (focus rfl)); ((refine wpList_on (v := .agg (dcells d)) ?_ ?_ ?_; rotate_left; (focus refine Calm.run_op_load (ty := 28) (x := .tmp 6) (u := .pointer (some ⟨w.heap.size, 0, none⟩)) rfl rfl ?_; simp only [Instr.loadAt, Instr.sureAddr, Sem.run_bind, Sem.run_pure, Result.andThen_ok]; exact run_loadVar_row (P := Try.prog) _ w.heap.size 28 28 (dcells d) (0, 0) _ g6.out Try.underlying28 rfl (by rw [sizeD, dcells_size, hds])); rotate_left; (focus rfl))); ((refine wpList_on (v := .bool true) ?_ ?_ ?_; rotate_left; (focus exact run_op_eqD (x := .tmp 123) (y := .tmp 124) d hds _ rfl rfl rfl); rotate_left; (focus rfl))))
    go_ret
    exact ⟨rfl, HB.out⟩
theorem back_row (n : Int) (_ : (Lit.int .i64 n).wf = true) (t : ByteArray) (_ : t.size ≤ 140737488351232) (d : ByteArray) (hd : d.size = 32) (rest : ByteArray) (_ : rest.size ≤ 140737488351232) (w : World) : Calls Try.prog 5 #[.int .i64 n, .string t, .agg (dcells d), .string rest] w fun e w' => e = .returned (.bool true) ∧ Below w.heap.size w w' :=
  back_any n t d rest hd w
end Go.Proofs.Ytgdhbmdhgejnkaa.WireB
