/- cenotaphlaw04.WireTexts: it returns true, whatever it is given. -/
import Derived.Test.YtgdhbmdhgejnkaaWireB
import Derived.Test.YtgdhbmdhgejnkaaCalmF
namespace Go.Proofs.Ytgdhbmdhgejnkaa.WireT
open Go.RowKit Go.Proofs.Ytgdhbmdhgejnkaa.Fn Go.Proofs.YtgdhbmdhgejnkaaW.PrintWords Go.Proofs.YtgdhbmdhgejnkaaW.PrintLast Go.Proofs.Ytgdhbmdhgejnkaa.WireD Go.Proofs.Ytgdhbmdhgejnkaa.WireM Go.Proofs.Ytgdhbmdhgejnkaa.WireP Go.Proofs.Ytgdhbmdhgejnkaa.WireC Go.Proofs.Ytgdhbmdhgejnkaa.WireO Go.Proofs.Ytgdhbmdhgejnkaa.WireB

def TC (t d bt bf : ByteArray) : Nat → Value
  | 0 => .string t
  | 1 => .string bt
  | 2 => .string t
  | 3 => .string bt
  | 6 => .agg (dcells d)
  | 7 => .string d
  | 8 => .agg (dcells d)
  | 9 => .string d
  | 13 => .string t
  | 14 => .string bf
  | 15 => .string t
  | 16 => .string bf
  | _ => .bool true
def TV (t d bt bf : ByteArray) (i : Nat) (v : Value) (_ : World) : Prop := v = TC t d bt bf i
abbrev TE (W W' : World) : Prop := Below W.heap.size W W'
structure TS (w w3 w4 : World) (d x : ByteArray) (W : World) : Prop where
  b : Below w.heap.size w W
  g7 : W.heap[w.heap.size]? = some (.cells (dcells d) 28 (0, 0))
  g16 : W.heap[w3.heap.size]? = some (.cells (dcells x) 28 (0, 0))
  g19 : W.heap[w4.heap.size]? = some (.cells (dcells x) 28 (0, 0))
theorem TS.next {w w3 w4 : World} {d x : ByteArray} {W W' : World} (h : TS w w3 w4 d x W) (hb : Below W.heap.size W W') : TS w w3 w4 d x W' :=
  ⟨h.b.trans (hb.mono h.b.size), (hb.block _ (Array.getElem?_eq_some_iff.1 h.g7).1).trans h.g7, (hb.block _ (Array.getElem?_eq_some_iff.1 h.g16).1).trans h.g16, (hb.block _ (Array.getElem?_eq_some_iff.1 h.g19).1).trans h.g19⟩
set_option maxHeartbeats 40000000 in
set_option maxRecDepth 100000 in
theorem texts_any (t s : ByteArray) (most : Int) (d : ByteArray) (hds : d.size = 32) (w : World) : Calls Try.prog 4 #[.string t, .string s, .int .i64 most, .agg (dcells d)] w fun e w' => e = .returned (.bool true) ∧ Below w.heap.size w w' := by
  have hz0 := zeroD
  by_cases c1 : 300 < s.size
  · have q1 : decide (300 < (s.size : Int)) = true := decide_eq_true (by omega); have q2 : decide (300 < s.size) = true := decide_eq_true c1; clear c1
    go_enter Try.func4, Try.ntmps4
    go_wp2_with fail
    refine (WireW.works_any _).mono ?_
    rintro e w1 ⟨rfl, hb⟩
    go_wp2_with fail
    go_ret
    exact ⟨rfl, below_step (by repeat (first | exact Below.refl _ _ | apply below_alloc)) hb⟩
  have q1 : decide (300 < (s.size : Int)) = false := decide_eq_false (by omega)
  have q2 : decide (300 < s.size) = false := decide_eq_false c1
  by_cases c2 : 300 < t.size
  · have q3 : decide (300 < (t.size : Int)) = true := decide_eq_true (by omega); have q4 : decide (300 < t.size) = true := decide_eq_true c2; clear c1 c2
    go_enter Try.func4, Try.ntmps4
    go_wp2_with fail
    refine (WireW.works_any _).mono ?_
    rintro e w1 ⟨rfl, hb⟩
    go_wp2_with fail
    go_ret
    exact ⟨rfl, below_step (by repeat (first | exact Below.refl _ _ | apply below_alloc)) hb⟩
  · have q3 : decide (300 < (t.size : Int)) = false := decide_eq_false (by omega)
    have q4 : decide (300 < t.size) = false := decide_eq_false c2
    have hn : t.size ≤ maxN := by unfold maxN; omega
    have hz : s.size ≤ 9223372036854775807 := by omega
    obtain ⟨x1, r1, b1, hT⟩ : ∃ x r b, tr (getText (L s) most) = (x, r, b) := ⟨_, _, _, rfl⟩
    obtain ⟨x2, r2, b2, hF⟩ : ∃ x r b, tr (getFrame (L s)) = (x, r, b) := ⟨_, _, _, rfl⟩
    obtain ⟨x3, r3, b3, hD⟩ : ∃ x r b, sumT s = (x, r, b) := ⟨_, _, _, rfl⟩
    have hx3 : x3.size = 32 := by have := sumT_size s; rw [hD] at this; exact this
    have cG := gettext_calls s hz most _ _ _ hT
    have cRG := refgettext_calls s hz most _ _ _ hT
    have cH := getframe_calls s hz _ _ _ hF
    have cRH := refgetframe_calls s hz _ _ _ hF
    have cD := getsum_calls s hz _ _ _ hD
    have cRD := refgetsum_calls s _ _ _ hD
    have cT := text_calls t hn
    have cRT := reftext_calls t hn
    have cF := frame_calls t hn
    have cRF := refframe_calls t hn
    clear hT hF hD hn c1 c2 hz
    generalize B (text (L t)) = bt at cT cRT
    generalize B (frame (L t)) = bf at cF cRF
    have HB := Aside0.mk (Below.refl w.heap.size w)
    have g7 := Lib.hid (heap_alloc_new w (.cells (dcells d) 28))
    go_enter Try.func4, Try.ntmps4
    go_wp2_with fail
    refine (WireW.works_any _).mono ?_
    rintro e w0 ⟨rfl, hb⟩
    have n0_ := Aside0.mk (below_step (by repeat (first | exact HB.out | apply below_alloc)) hb); clear HB; have HB := n0_; clear n0_
    have g0_ := Lib.hid ((hb.block _ (Array.getElem?_eq_some_iff.1 g7.out).1).trans g7.out); clear g7; have g7 := g0_; clear g0_
    clear hb
    go_wp2_with fail
    refine (cG _).mono ?_
    rintro e w1 ⟨rfl, hb⟩
    have n0_ := Aside0.mk (below_step (by repeat (first | exact HB.out | apply below_alloc)) hb); clear HB; have HB := n0_; clear n0_
    have g0_ := Lib.hid ((hb.block _ (Array.getElem?_eq_some_iff.1 g7.out).1).trans g7.out); clear g7; have g7 := g0_; clear g0_
    clear hb
    go_wp2_with fail
    refine (cRG _).mono ?_
    rintro e w2 ⟨rfl, hb⟩
    have n0_ := Aside0.mk (below_step (by repeat (first | exact HB.out | apply below_alloc)) hb); clear HB; have HB := n0_; clear n0_
    have g0_ := Lib.hid ((hb.block _ (Array.getElem?_eq_some_iff.1 g7.out).1).trans g7.out); clear g7; have g7 := g0_; clear g0_
    clear hb
    go_wp2_with fail
    refine (cD _).mono ?_
    rintro e w3 ⟨rfl, hb⟩
    have n0_ := Aside0.mk (below_step (by repeat (first | exact HB.out | apply below_alloc)) hb); clear HB; have HB := n0_; clear n0_
    have g0_ := Lib.hid ((hb.block _ (Array.getElem?_eq_some_iff.1 g7.out).1).trans g7.out); clear g7; have g7 := g0_; clear g0_
    clear hb
    go_wp2_with (refine wpList_store_row rfl 28 (.tmp 16) (.tmp 58) rfl w3.heap.size (dcells x3) rfl rfl 28 zcells (heap_alloc_new _ _) (by rw [sizeD, dcells_size, hx3]) (by rw [zcells_size, dcells_size, hx3]) (dcells_one _) ?_; rw [World.setRow_alloc_new])
    have g16 := Lib.hid (heap_alloc_new w3 (.cells (dcells x3) 28))
    have g0_ := Lib.hid ((heap_alloc_old w3 (.cells (dcells x3) 28) (Array.getElem?_eq_some_iff.1 g7.out).1).trans g7.out); clear g7; have g7 := g0_; clear g0_
    refine (cRD _).mono ?_
    rintro e w4 ⟨rfl, hb⟩
    have n0_ := Aside0.mk (below_step (by repeat (first | exact HB.out | apply below_alloc)) hb); clear HB; have HB := n0_; clear n0_
    have g0_ := Lib.hid ((hb.block _ (Array.getElem?_eq_some_iff.1 g7.out).1).trans g7.out); clear g7; have g7 := g0_; clear g0_
    have g0_ := Lib.hid ((hb.block _ (Array.getElem?_eq_some_iff.1 g16.out).1).trans g16.out); clear g16; have g16 := g0_; clear g0_
    clear hb
    go_wp2_with (refine wpList_store_row rfl 28 (.tmp 19) (.tmp 64) rfl w4.heap.size (dcells x3) rfl rfl 28 zcells (heap_alloc_new _ _) (by rw [sizeD, dcells_size, hx3]) (by rw [zcells_size, dcells_size, hx3]) (dcells_one _) ?_; rw [World.setRow_alloc_new])
    have g19 := Lib.hid (heap_alloc_new w4 (.cells (dcells x3) 28))
    have g0_ := Lib.hid ((heap_alloc_old w4 (.cells (dcells x3) 28) (Array.getElem?_eq_some_iff.1 g7.out).1).trans g7.out); clear g7; have g7 := g0_; clear g0_
    have g0_ := Lib.hid ((heap_alloc_old w4 (.cells (dcells x3) 28) (Array.getElem?_eq_some_iff.1 g16.out).1).trans g16.out); clear g16; have g16 := g0_; clear g0_
    refine (cH _).mono ?_
    rintro e w5 ⟨rfl, hb⟩
    have n0_ := Aside0.mk (below_step (by repeat (first | exact HB.out | apply below_alloc)) hb); clear HB; have HB := n0_; clear n0_
    have g0_ := Lib.hid ((hb.block _ (Array.getElem?_eq_some_iff.1 g7.out).1).trans g7.out); clear g7; have g7 := g0_; clear g0_
    have g0_ := Lib.hid ((hb.block _ (Array.getElem?_eq_some_iff.1 g16.out).1).trans g16.out); clear g16; have g16 := g0_; clear g0_
    have g0_ := Lib.hid ((hb.block _ (Array.getElem?_eq_some_iff.1 g19.out).1).trans g19.out); clear g19; have g19 := g0_; clear g0_
    clear hb
    go_wp2_with fail
    refine (cRH _).mono ?_
    rintro e w6 ⟨rfl, hb⟩
    have n0_ := Aside0.mk (below_step (by repeat (first | exact HB.out | apply below_alloc)) hb); clear HB; have HB := n0_; clear n0_
    have g0_ := Lib.hid ((hb.block _ (Array.getElem?_eq_some_iff.1 g7.out).1).trans g7.out); clear g7; have g7 := g0_; clear g0_
    have g0_ := Lib.hid ((hb.block _ (Array.getElem?_eq_some_iff.1 g16.out).1).trans g16.out); clear g16; have g16 := g0_; clear g0_
    have g0_ := Lib.hid ((hb.block _ (Array.getElem?_eq_some_iff.1 g19.out).1).trans g19.out); clear g19; have g19 := g0_; clear g0_
    clear hb
    go_wp2_with fail
    clear hz0 q1 q2 q3 q4 cG cRG cH cRH cD cRD
    refine Calm.calm_region (TS w w3 w4 d x3) TE (TV t d bt bf) [0, 7] (by kernel_rfl) (by kernel_rfl) (by kernel_rfl) (fun _ _ _ _ h _ => h) (fun _ => Below.refl _ _) ⟨HB.out.drew, g7.out, g16.out, g19.out⟩ ?_ ?_
    · have hload : ∀ W : World, TS w w3 w4 d x3 W → (loadVar 28 ⟨w.heap.size, 0, none⟩).run Try.prog W = .ok (.agg (dcells d)) W := fun W hS =>
        run_loadVar_row (P := Try.prog) W w.heap.size 28 28 (dcells d) (0, 0) _ hS.g7 Try.underlying28 rfl (by rw [sizeD, dcells_size, hds])
      simp only [Calm.Steps, Calm.Step]
      refine ⟨?_, ?_, ?_, ?_, ?_, ?_, ?_, ?_, ?_, ?_, ?_, ?_, ?_, ?_, ?_, ?_, ?_, ?_, ?_, ?_, trivial⟩ <;> intro a W hS hN hF <;> simp [Calm.needs, Calm.same, Calm.Left, TV, TC, Region.binds] at hN hF
      any_goals first
        | (refine Calm.step_val (Calm.wanted_none rfl) _ ?_ hS (Below.refl _ _) rfl; simp [go_sem, Act.eval, hN, hF, TC]; done)
        | (refine Calm.step_val (Calm.wanted_on rfl rfl rfl ?_) _ ?_ hS (Below.refl _ _) rfl
           · simp [hN]
           · simp [go_sem, Act.eval, hN, hF, TC])
        | (refine Calm.step_val (Calm.wanted_on rfl rfl rfl ?_) (.agg (dcells d)) ?_ hS (Below.refl _ _) rfl
           · simp [hN]
           · exact Calm.run_op_load rfl (Calm.eval_tmp hF.2) (by simp only [Instr.loadAt, Instr.sureAddr, Sem.run_bind, Sem.run_pure, Result.andThen_ok, hload W hS]))
        | skip
      · refine Calm.step_call (Calm.wanted_none rfl) (f := 22) (args := #[.string t]) (w1 := W) (by simp [go_sem, Act.eval, hN]) ((cT W).mono ?_)
        rintro e w' ⟨rfl, hb⟩
        exact ⟨_, rfl, hS.next hb, hb, rfl⟩
      · refine Calm.step_call (Calm.wanted_none rfl) (f := 23) (args := #[.string t]) (w1 := W) (by simp [go_sem, Act.eval, hN]) ((cRT W).mono ?_)
        rintro e w' ⟨rfl, hb⟩
        exact ⟨_, rfl, hS.next hb, hb, rfl⟩
      · refine Calm.step_call (Calm.wanted_on rfl rfl rfl (by simp [hN])) (f := 24) (args := #[.agg (dcells d)]) (w1 := W) (by simp [go_sem, Act.eval, hN]) ((sum_any d hds W).mono ?_)
        rintro e w' ⟨rfl, hb⟩
        exact ⟨_, rfl, hS.next hb, hb, rfl⟩
      · refine Calm.step_call (Calm.wanted_on rfl rfl rfl (by simp [hN])) (f := 25) (args := #[.agg (dcells d)]) (w1 := W) (by simp [go_sem, Act.eval, hN]) ((refsum_any d hds W).mono ?_)
        rintro e w' ⟨rfl, hb⟩
        exact ⟨_, rfl, hS.next hb, hb, rfl⟩
      · refine Calm.step_call (Calm.wanted_on rfl rfl rfl (by simp [hN])) (f := 26) (args := #[.string t]) (w1 := W) (by simp [go_sem, Act.eval, hN]) ((cF W).mono ?_)
        rintro e w' ⟨rfl, hb⟩
        exact ⟨_, rfl, hS.next hb, hb, rfl⟩
      · refine Calm.step_call (Calm.wanted_on rfl rfl rfl (by simp [hN])) (f := 27) (args := #[.string t]) (w1 := W) (by simp [go_sem, Act.eval, hN]) ((cRF W).mono ?_)
        rintro e w' ⟨rfl, hb⟩
        exact ⟨_, rfl, hS.next hb, hb, rfl⟩
    · intro a W hI
      have ha := hI.frame (by kernel_rfl) (TC t d bt bf) (fun i v h _ _ => h)
      have hS := hI.s
      clear hI
      subst ha
      have g16 := Lib.hid hS.g16
      have g19 := Lib.hid hS.g19
      have HB := Aside0.mk hS.b
      clear hS cT cRT cF cRF g7
      simp only [Calm.puts, TC]
      go_wp2_with (first
        | (refine wpList_on (v := .agg (dcells x3)) ?_ ?_ ?_; rotate_left; (focus refine Calm.run_op_load (ty := 28) (x := .tmp 16) (u := .pointer (some ⟨w3.heap.size, 0, none⟩)) rfl rfl ?_; simp only [Instr.loadAt, Instr.sureAddr, Sem.run_bind, Sem.run_pure, Result.andThen_ok]; exact run_loadVar_row (P := Try.prog) _ w3.heap.size 28 28 (dcells x3) (0, 0) _ g16.out Try.underlying28 rfl (by rw [sizeD, dcells_size, hx3])); rotate_left; (focus rfl))
        | (refine wpList_on (v := .agg (dcells x3)) ?_ ?_ ?_; rotate_left; (focus refine Calm.run_op_load (ty := 28) (x := .tmp 19) (u := .pointer (some ⟨w4.heap.size, 0, none⟩)) rfl rfl ?_; simp only [Instr.loadAt, Instr.sureAddr, Sem.run_bind, Sem.run_pure, Result.andThen_ok]; exact run_loadVar_row (P := Try.prog) _ w4.heap.size 28 28 (dcells x3) (0, 0) _ g19.out Try.underlying28 rfl (by rw [sizeD, dcells_size, hx3])); rotate_left; (focus rfl))
        | (refine wpList_on (v := .bool true) ?_ ?_ ?_; rotate_left; (focus exact run_op_eqD (x := .tmp 118) (y := .tmp 119) x3 hx3 _ rfl rfl rfl); rotate_left; (focus rfl)))
      go_ret
      exact ⟨rfl, HB.out⟩
theorem texts_row (t : ByteArray) (_ : t.size ≤ 140737488351232) (s : ByteArray) (_ : s.size ≤ 140737488351232) (most : Int) (_ : (Lit.int .i64 most).wf = true) (d : ByteArray) (hd : d.size = 32) (w : World) : Calls Try.prog 4 #[.string t, .string s, .int .i64 most, .agg (dcells d)] w fun e w' => e = .returned (.bool true) ∧ Below w.heap.size w w' :=
  texts_any t s most d hd w
end Go.Proofs.Ytgdhbmdhgejnkaa.WireT
