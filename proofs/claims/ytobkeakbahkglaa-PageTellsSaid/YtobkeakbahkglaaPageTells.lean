/- PageTells: it returns true, whatever it is given. -/
import Derived.Test.YtobkeakbahkglaaPageS
import Derived.Test.YtobkeakbahkglaaPageX
import Derived.Test.YtobkeakbahkglaaRowP
import Derived.Test.YtobkeakbahkglaaEqB
set_option linter.unusedVariables false
namespace Go.Proofs.Ytobkeakbahkglaa.PageTells
open Go.RowKit Go.Proofs.Ytobkeakbahkglaa.ChipA Go.Proofs.Ytobkeakbahkglaa.Fn Go.Proofs.YtobkeakbahkglaaW.PrintWords Go.Proofs.Ytobkeakbahkglaa.PageM Go.Proofs.Ytobkeakbahkglaa.PageN Go.Proofs.Ytobkeakbahkglaa.PageG Go.Proofs.Ytobkeakbahkglaa.PageP Go.Proofs.Ytobkeakbahkglaa.PageX Go.Proofs.Ytobkeakbahkglaa.RowP Go.Proofs.Ytobkeakbahkglaa.PageS
attribute [local go_sem high] eqA29

theorem refget_calls (b : ByteArray) (hz : b.size ≤ 9223372036854775807) (k s o l : Int) (t : ByteArray) (ok : Bool) (hg : got b = (k, s, o, l, t, ok)) (W : World) :
    Calls Try.prog 10 #[.string b] W fun e w' => e = .returned (.tuple #[.agg (pcells k s o l t), .bool ok]) ∧ Below W.heap.size W w' := by
  obtain ⟨f, h⟩ := (refget_ev b hz).rounds
  exact cenotaphref14_Get.calls f b k s o l t ok W (h.trans (congrArg some hg))
theorem refput_calls (k s o l : Int) (t : ByteArray) (W : World) : Calls Try.prog 15 #[.agg (pcells k s o l t)] W fun e w' => e = .returned (.string (PageM.put k s o l t)) ∧ Below W.heap.size W w' := by
  obtain ⟨f, h⟩ := (refput_ev k s o l t).rounds
  exact cenotaphref14_Put.calls f k s o l t _ W h
theorem refvalid_calls (k s o l : Int) (t : ByteArray) (W : World) : Calls Try.prog 11 #[.agg (pcells k s o l t)] W fun e w' => e = .returned (.bool (valid k s o l t)) ∧ Below W.heap.size W w' :=
  cenotaphref14_Valid.calls k s o l t _ W (refvalid_eq k s o l t)
theorem of_calls (k s o l : Int) (t : ByteArray) (W : World) : Calls Try.prog 12 #[.agg (pcells k s o l t)] W fun e w' => e = .returned (.agg (pcells k s o l t)) ∧ Below W.heap.size W w' :=
  cenotaphlaw14_of.calls k s o l t k s o l t W rfl
theorem size29 : (Try.prog.info? 29).map (·.size) = some 5 := by kernel_rfl
/-- The reference's page in a block of its own. -/
def PC (W : World) (g : Nat) (k s o l : Int) (t : ByteArray) : Prop := W.heap[g]? = some (.cells (pcells k s o l t) 29 (0, 0))
theorem PC.below {W W' : World} {g : Nat} {k s o l : Int} {t : ByteArray} (h : PC W g k s o l t) (hb : Below W.heap.size W W') : PC W' g k s o l t := (hb.block g (Array.getElem?_eq_some_iff.1 h).1).trans h
theorem load_ref {W : World} {g : Nat} {k s o l : Int} {t : ByteArray} (h : PC W g k s o l t) : (Instr.loadAt 29 (.pointer (some ⟨g, 0, none⟩))).run Try.prog W = .ok (.agg (pcells k s o l t)) W := by
  have hl := run_loadVar_row (P := Try.prog) W g 29 29 (pcells k s o l t) (0, 0) _ h Try.underlying29 rfl (by rw [size29]; rfl)
  simp only [Instr.loadAt, Instr.sureAddr, Sem.run_bind, Sem.run_pure, Result.andThen_ok, hl]
structure TS (w : World) (g3 g8 g10 : Nat) (a g : Pag) (W : World) : Prop where
  b : Below w.heap.size w W
  p3 : PB W g3 a.1 a.2.1 a.2.2.1 a.2.2.2.1 a.2.2.2.2
  p8 : PB W g8 g.1 g.2.1 g.2.2.1 g.2.2.2.1 g.2.2.2.2
  p10 : PC W g10 g.1 g.2.1 g.2.2.1 g.2.2.2.1 g.2.2.2.2
theorem TS.next {w W W' : World} {g3 g8 g10 : Nat} {a g : Pag} (h : TS w g3 g8 g10 a g W) (hb : Below W.heap.size W W') : TS w g3 g8 g10 a g W' :=
  ⟨h.b.trans (hb.mono h.b.size), h.p3.below hb, h.p8.below hb, h.p10.below hb⟩
abbrev pc (a : Pag) : Value := .agg (pcells a.1 a.2.1 a.2.2.1 a.2.2.2.1 a.2.2.2.2)
def TC (a g : Pag) (vb ok : Bool) (pt : ByteArray) (d rm : Int) : Nat → Value
  | 2 => pc a
  | 3 => .bool vb
  | 4 => .bool vb
  | 8 => pc a
  | 9 => .string pt
  | 10 => pc a
  | 11 => pc a
  | 12 => .string pt
  | 16 => pc g
  | 17 => pc g
  | 18 => pc g
  | 22 => .bool ok
  | 23 => .bool ok
  | 27 => .int .i64 d
  | 28 => .int .i64 rm
  | 29 => .int .i64 d
  | 30 => .int .i64 rm
  | _ => .bool true
def TV (a g : Pag) (vb ok : Bool) (pt : ByteArray) (d rm : Int) (i : Nat) (v : Value) (_ : World) : Prop := v = TC a g vb ok pt d rm i
set_option maxHeartbeats 4000000 in
set_option maxRecDepth 100000 in
theorem tells_any (a : Pag) (b : ByteArray) (d : Int) (w : World) : Calls Try.prog 3 #[pc a, .string b, .int .i64 d] w fun e w' => e = .returned (.bool true) ∧ Below w.heap.size w w' := by
  obtain ⟨k, s, o, l, t⟩ := a
  have hp0 : PB (w.alloc (.cells (pcells k s o l t) 24)) w.heap.size k s o l t := heap_alloc_new _ _
  have hB0 : Below w.heap.size w (w.alloc (.cells (pcells k s o l t) 24)) := (Below.refl _ _).alloc (Nat.le_refl _) _
  by_cases c1 : 400 < t.size
  · have q1 : decide (400 < (t.size : Int)) = true := decide_eq_true (by omega)
    have q2 : decide (400 < t.size) = true := decide_eq_true c1
    clear c1
    go_enter Try.func3, Try.ntmps3
    go_wp2_with fail
    refine (PageX.works_any _).mono ?_
    rintro e w1 ⟨rfl, hb1⟩
    have c4 := (hp0.below hb1).c4
    have hB := hB0.trans (hb1.mono hB0.size)
    clear hb1 hp0 hB0
    go_wp2_with fail
    go_ret
    exact ⟨rfl, hB⟩
  have q1 : decide (400 < (t.size : Int)) = false := decide_eq_false (by omega)
  have q2 : decide (400 < t.size) = false := decide_eq_false c1
  by_cases c2 : 400 < b.size
  · have q3 : decide (400 < (b.size : Int)) = true := decide_eq_true (by omega)
    have q4 : decide (400 < b.size) = true := decide_eq_true c2
    clear c1 c2
    go_enter Try.func3, Try.ntmps3
    go_wp2_with fail
    refine (PageX.works_any _).mono ?_
    rintro e w1 ⟨rfl, hb1⟩
    have c4 := (hp0.below hb1).c4
    have hB := hB0.trans (hb1.mono hB0.size)
    clear hb1 hp0 hB0
    go_wp2_with fail
    go_ret
    exact ⟨rfl, hB⟩
  have q3 : decide (400 < (b.size : Int)) = false := decide_eq_false (by omega)
  have q4 : decide (400 < b.size) = false := decide_eq_false c2
  have hbz : b.size ≤ 9223372036854775807 := by omega
  obtain ⟨k', s', o', l', t', ok, hg⟩ : ∃ k s o l t ok, got b = (k, s, o, l, t, ok) := ⟨_, _, _, _, _, _, rfl⟩
  have pg := get_any b hbz
  have pr := refget_calls b hbz k' s' o' l' t' ok hg
  clear c1 c2
  go_enter Try.func3, Try.ntmps3
  go_wp2_with fail
  refine (PageX.works_any _).mono ?_
  rintro e w1 ⟨rfl, hb1⟩
  have hp1 := hp0.below hb1
  have c4 := hp1.c4
  have hB := hB0.trans (hb1.mono hB0.size)
  clear hb1 hp0 hB0
  go_wp2_with fail
  refine (pg _ _ _ _ _ _ _ hg).mono ?_
  rintro e w2 ⟨rfl, hb2⟩
  replace hp1 := hp1.below hb2
  replace hB := hB.trans (hb2.mono hB.size)
  clear hb2 pg c4
  replace hp1 := Lib.hid hp1
  replace hB := Lib.hid hB
  go_wp2_with (refine wpList_store_row rfl 24 (.tmp 8) (.tmp 29) rfl w2.heap.size (pcells k' s' o' l' t') rfl rfl 24 zpage (heap_alloc_new _ _) (by rw [size24]; rfl) rfl (pcells_one _ _ _ _ _) ?_; rw [World.setRow_alloc_new])
  have hp8 : PB (w2.alloc (.cells (pcells k' s' o' l' t') 24)) w2.heap.size k' s' o' l' t' := heap_alloc_new _ _
  replace hp1 := Lib.hid (hp1.out.below ((Below.refl _ _).alloc (Nat.le_refl _) (.cells (pcells k' s' o' l' t') 24)))
  replace hB := Lib.hid (hB.out.alloc hB.out.size (.cells (pcells k' s' o' l' t') 24))
  refine (pr _).mono ?_
  rintro e w3 ⟨rfl, hb3⟩
  replace hp1 := Lib.hid (hp1.out.below hb3)
  replace hp8 := Lib.hid (hp8.below hb3)
  replace hB := Lib.hid (hB.out.trans (hb3.mono hB.out.size))
  clear hb3 pr
  generalize w2.heap.size = g8 at hp8 ⊢
  have hA := (Below.refl w3.heap.size w3).alloc (Nat.le_refl _) (.cells (pcells k' s' o' l' t') 29)
  replace hp1 := hp1.out.below hA
  replace hp8 := Lib.hid (hp8.out.below hA)
  have hp10 : PC (w3.alloc (.cells (pcells k' s' o' l' t') 29)) w3.heap.size k' s' o' l' t' := heap_alloc_new _ _
  replace hB := Lib.hid (hB.out.alloc hB.out.size (.cells (pcells k' s' o' l' t') 29))
  have c0 := hp1.c0
  have c1 := hp1.c1
  have c2 := hp1.c2
  have c3 := hp1.c3
  have c4 := hp1.c4
  clear hA
  go_wp2_with (refine wpList_store_row rfl 29 (.tmp 10) (.tmp 34) rfl w3.heap.size (pcells k' s' o' l' t') rfl rfl 29 zpage (heap_alloc_new _ _) (by rw [size29]; rfl) rfl (pcells_one _ _ _ _ _) ?_; rw [World.setRow_alloc_new])
  refine (of_calls k s o l t _).mono ?_
  rintro e w4 ⟨rfl, hb4⟩
  replace hp1 := Lib.hid (hp1.below hb4)
  replace hp8 := Lib.hid (hp8.out.below hb4)
  replace hp10 := Lib.hid (hp10.below hb4)
  replace hB := Lib.hid (hB.out.trans (hb4.mono hB.out.size))
  clear hb4 c0 c1 c2 c3 c4
  generalize w3.heap.size = g10 at hp10 ⊢
  go_wp2_with fail
  refine (refvalid_calls k s o l t _).mono ?_
  rintro e w5 ⟨rfl, hb5⟩
  have hS : TS w w.heap.size g8 g10 (k, s, o, l, t) (k', s', o', l', t') w5 := ⟨hB.out.trans (hb5.mono hB.out.size), hp1.out.below hb5, hp8.out.below hb5, hp10.out.below hb5⟩
  clear hb5 hp1 hp8 hp10 hB
  go_wp2_with fail
  generalize hvb : valid k s o l t = vb
  refine Calm.calm_region (TS w w.heap.size g8 g10 (k, s, o, l, t) (k', s', o', l', t')) (fun W W' => Below W.heap.size W W') (TV (k, s, o, l, t) (k', s', o', l', t') vb ok (PageM.put k s o l t) d (mn (wrap64 (mx d 32 - 32)) 224)) [1, 2, 3, 7, 8, 9, 10, 11, 12] (by kernel_rfl) (by kernel_rfl) (by kernel_rfl) (fun _ _ _ _ h _ => h) (fun _ => Below.refl _ _) (hS.next (below_drewN (Below.refl _ _) 1)) ?_ ?_
  · simp only [Calm.Steps, Calm.Step]
    refine ⟨?_, ?_, ?_, ?_, ?_, ?_, ?_, ?_, ?_, ?_, ?_, ?_, ?_, ?_, ?_, ?_, ?_, ?_, ?_, ?_, ?_, ?_, ?_, ?_, ?_, ?_, ?_, ?_, ?_, ?_, ?_, ?_, ?_, ?_, trivial⟩ <;> intro a W hS hN hF <;> simp [Calm.needs, Calm.same, Calm.Left, TV, TC, Region.binds] at hN hF
    any_goals first
      | (refine Calm.step_val (Calm.wanted_none rfl) _ ?_ hS (Below.refl _ _) rfl; simp [go_sem, Act.eval, hN, hF, TC]; done)
      | (refine Calm.step_val (Calm.wanted_on rfl rfl rfl ?_) _ ?_ hS (Below.refl _ _) rfl
         · simp [hN]
         · simp [go_sem, Act.eval, hN, hF, TC]; done)
      | skip
    · exact Calm.step_val (Calm.wanted_on rfl rfl rfl (by simp [hN])) (pc (k, s, o, l, t)) (Calm.run_op_load rfl (Calm.eval_tmp hF.2.2.1) (load_page hS.p3)) hS (Below.refl _ _) rfl
    · have pv := valid_calls k s o l t W
      rw [hvb] at pv
      refine Calm.step_call (Calm.wanted_on rfl rfl rfl (by simp [hN])) (f := 13) (args := #[pc (k, s, o, l, t)]) (w1 := W) (by simp [go_sem, Act.eval, hN, hF]) (pv.mono ?_)
      rintro e w' ⟨rfl, hb⟩
      exact ⟨_, rfl, hS.next hb, hb, rfl⟩
    · exact Calm.step_val (Calm.wanted_on rfl rfl rfl (by simp [hN])) (pc (k, s, o, l, t)) (Calm.run_op_load rfl (Calm.eval_tmp hF.2.2.1) (load_page hS.p3)) hS (Below.refl _ _) rfl
    · refine Calm.step_call (Calm.wanted_on rfl rfl rfl (by simp [hN])) (f := 14) (args := #[pc (k, s, o, l, t)]) (w1 := W) (by simp [go_sem, Act.eval, hN, hF]) ((put_any k s o l t W).mono ?_)
      rintro e w' ⟨rfl, hb⟩
      exact ⟨_, rfl, hS.next hb, hb, rfl⟩
    · exact Calm.step_val (Calm.wanted_on rfl rfl rfl (by simp [hN])) (pc (k, s, o, l, t)) (Calm.run_op_load rfl (Calm.eval_tmp hF.2.2.1) (load_page hS.p3)) hS (Below.refl _ _) rfl
    · refine Calm.step_call (Calm.wanted_on rfl rfl rfl (by simp [hN])) (f := 12) (args := #[pc (k, s, o, l, t)]) (w1 := W) (by simp [go_sem, Act.eval, hN, hF]) ((of_calls k s o l t W).mono ?_)
      rintro e w' ⟨rfl, hb⟩
      exact ⟨_, rfl, hS.next hb, hb, rfl⟩
    · refine Calm.step_call (Calm.wanted_on rfl rfl rfl (by simp [hN])) (f := 15) (args := #[pc (k, s, o, l, t)]) (w1 := W) (by simp [go_sem, Act.eval, hN, hF]) ((refput_calls k s o l t W).mono ?_)
      rintro e w' ⟨rfl, hb⟩
      exact ⟨_, rfl, hS.next hb, hb, rfl⟩
    · exact Calm.step_val (Calm.wanted_on rfl rfl rfl (by simp [hN])) (pc (k', s', o', l', t')) (Calm.run_op_load rfl (Calm.eval_tmp hF.2.2.2.2.1) (load_page hS.p8)) hS (Below.refl _ _) rfl
    · refine Calm.step_call (Calm.wanted_on rfl rfl rfl (by simp [hN])) (f := 12) (args := #[pc (k', s', o', l', t')]) (w1 := W) (by simp [go_sem, Act.eval, hN, hF]) ((of_calls k' s' o' l' t' W).mono ?_)
      rintro e w' ⟨rfl, hb⟩
      exact ⟨_, rfl, hS.next hb, hb, rfl⟩
    · exact Calm.step_val (Calm.wanted_on rfl rfl rfl (by simp [hN])) (pc (k', s', o', l', t')) (Calm.run_op_load rfl (Calm.eval_tmp hF.2.2.2.2.2.2.1) (load_ref hS.p10)) hS (Below.refl _ _) rfl
    · exact Calm.step_val (Calm.wanted_on rfl rfl rfl (by simp [hN])) (.bool true) (by simp [go_sem, execOp, Act.eval, hN, pcells]) hS (Below.refl _ _) rfl
    · refine Calm.step_call (Calm.wanted_on rfl rfl rfl (by simp [hN])) (f := 16) (args := #[.int .i64 d]) (w1 := W) (by simp [go_sem, Act.eval, hN, hF]) ((page_Room.calls d _ W (room_f d)).mono ?_)
      rintro e w' ⟨rfl, hb⟩
      exact ⟨_, rfl, hS.next hb, hb, rfl⟩
    · refine Calm.step_call (Calm.wanted_on rfl rfl rfl (by simp [hN])) (f := 17) (args := #[.int .i64 d]) (w1 := W) (by simp [go_sem, Act.eval, hN, hF]) ((cenotaphref14_Room.calls d _ W (refroom_f d)).mono ?_)
      rintro e w' ⟨rfl, hb⟩
      exact ⟨_, rfl, hS.next hb, hb, rfl⟩
  · intro a W hI
    have h0 : a.tmps.getD 6 undef = .bool true := hI.left 33 rfl
    have hdf := hI.d
    have hb := hI.s.b
    clear hI
    go_wp2_with fail
    exact bodyPost_ret (results_tmp rfl _ _ _) hdf ⟨by rw [h0], hb⟩
theorem tells_row {v0 : Value} (a : Pag) (h : PageArg v0 a) (b : ByteArray) (hb : b.size ≤ 140737488351232) (d : Int) (hd : (Lit.int .i64 d).wf = true) (W : World) : Calls Try.prog 3 #[v0, .string b, .int .i64 d] W fun e w' => e = .returned (.bool true) ∧ Below W.heap.size W w' := by
  unfold PageArg at h
  subst h
  exact tells_any a b d W
end Go.Proofs.Ytobkeakbahkglaa.PageTells
