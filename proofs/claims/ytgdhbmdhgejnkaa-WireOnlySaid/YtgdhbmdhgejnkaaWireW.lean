/- cenotaphlaw04.works: it returns true. -/
import Derived.Test.YtgdhbmdhgejnkaaFn6
import Derived.Test.YtgdhbmdhgejnkaaWireE
namespace Go.Proofs.Ytgdhbmdhgejnkaa.WireW
open Go.RowKit Go.Proofs.Ytgdhbmdhgejnkaa.Fn Go.Proofs.Ytgdhbmdhgejnkaa.WireD

theorem v1 : wire_GetNum.f 10 ⟨#[172, 2, 9]⟩ = some (300, ⟨#[9]⟩, true) := by kernel_rfl
theorem v2 : wire_Text.f 10 ⟨#[97, 98]⟩ = some ⟨#[2, 97, 98]⟩ := by kernel_rfl
theorem v3 : wire_GetText.f 10 ⟨#[2, 97, 98, 99]⟩ 5 = some (⟨#[97, 98]⟩, ⟨#[99]⟩, true) := by kernel_rfl
theorem v4 : wire_Frame.f 10 ⟨#[120, 121, 122]⟩ = some ⟨#[3, 120, 121, 122, 135, 19, 62, 39]⟩ := by kernel_rfl
theorem v5 : wire_GetFrame.f 10 ⟨#[3, 120, 121, 122, 135, 19, 62, 39, 119]⟩ = some (⟨#[120, 121, 122]⟩, ⟨#[119]⟩, true) := by kernel_rfl
theorem v6 : wire_Num.f 10 300 = some ⟨#[172, 2]⟩ := by kernel_rfl
def d1 : ByteArray := ⟨#[1] ++ Array.replicate 31 0⟩
theorem d1_size : d1.size = 32 := by kernel_rfl
def d1v : ByteArray := ⟨#[1] ++ Array.replicate 31 0 ++ #[118]⟩
theorem d1v_size : d1v.size = 33 := by kernel_rfl
theorem d1v_a : d1v.extract 0 32 = d1 := by kernel_rfl
theorem d1v_b : d1v.extract 32 33 = ⟨#[118]⟩ := by kernel_rfl
theorem d1_cat : d1 ++ ⟨#[118]⟩ = d1v := by kernel_rfl
theorem build_d1 (W : World) : (Instr.build 28 #[(0, .int .u8 1)]).run Try.prog W = .ok (.agg (#[.int .u8 1] ++ Array.replicate 31 (.int .u8 0))) W := by kernel_rfl
theorem conv_row (W : World) (g n : Nat) (xs : List Int) (hg : W.heap[g]? = some (.cells (xs.map (Value.int .u8)).toArray 5 (0, 0))) (hn : xs.length = n) :
    (convert 39 9 (.slice (some ⟨g, 0, none⟩) n n)).run Try.prog W = .ok (.string (strOfNums xs)) W :=
  run_convert_bytes_arg (P := Try.prog) W 39 5 Try.underlying39 Try.underlying5 g 0 n n xs hn (fun i hi => by
    have h2 : i < xs.length := by omega
    rw [cell_of_row _ _ _ _ _ _ hg, Nat.zero_add, List.getElem?_toArray, List.getElem?_map, List.getElem?_eq_getElem h2, List.getD_eq_getElem?_getD, List.getElem?_eq_getElem h2]
    rfl) 9 Try.underlying9
theorem conv3 (W : World) : (convert 39 9 (.slice (some ⟨W.heap.size, 0, none⟩) 3 3)).run Try.prog (W.alloc (.cells #[.int .u8 172, .int .u8 2, .int .u8 9] 5)) = .ok (.string ⟨#[172, 2, 9]⟩) (W.alloc (.cells #[.int .u8 172, .int .u8 2, .int .u8 9] 5)) :=
  conv_row _ _ 3 [172, 2, 9] (heap_alloc_new W _) rfl
theorem build_d1' (W : World) : (Instr.build 28 #[(0, .int .u8 1)]).run Try.prog W = .ok (.agg (dcells d1)) W := by
  rw [build_d1]
  refine congrArg (fun c => Result.ok (Value.agg c) W) ?_
  unfold dcells d1
  kernel_rfl
theorem c1 : (⟨#[2, 97, 98]⟩ : ByteArray) ++ ⟨#[99]⟩ = ⟨#[2, 97, 98, 99]⟩ := by kernel_rfl
theorem c2 : (⟨#[3, 120, 121, 122, 135, 19, 62, 39]⟩ : ByteArray) ++ ⟨#[119]⟩ = ⟨#[3, 120, 121, 122, 135, 19, 62, 39, 119]⟩ := by kernel_rfl
/-! The last statement. -/
structure WS (w w7 : World) (W : World) : Prop where
  b : Below w.heap.size w W
  d : W.heap[w7.heap.size]? = some (.cells (dcells d1) 28 (0, 0))
theorem WS.next {w w7 W W' : World} (h : WS w w7 W) (hb : Below W.heap.size W W') : WS w w7 W' := ⟨h.b.trans (hb.mono h.b.size), (hb.block _ (Array.getElem?_eq_some_iff.1 h.d).1).trans h.d⟩
def Row (xs : List Int) (v : Value) (W : World) : Prop := ∃ g, v = .slice (some ⟨g, 0, none⟩) xs.length xs.length ∧ W.heap[g]? = some (.cells (xs.map (Value.int .u8)).toArray 5 (0, 0))
def WC : Nat → Value
  | 0 => .string ⟨#[172, 2]⟩
  | 2 => .string ⟨#[172, 2]⟩
  | 5 => .int .i64 300
  | 9 => .string ⟨#[9]⟩
  | 11 => .string ⟨#[9]⟩
  | 18 => .string ⟨#[97, 98]⟩
  | 22 => .string ⟨#[99]⟩
  | 29 => .string ⟨#[120, 121, 122]⟩
  | 33 => .string ⟨#[119]⟩
  | 40 => .agg (dcells d1)
  | 41 => .agg (dcells d1)
  | 45 => .string ⟨#[118]⟩
  | _ => .bool true
def WV : Nat → Value → World → Prop
  | 1, v, W => Row [172, 2] v W
  | 10, v, W => Row [9] v W
  | i, v, _ => v = WC i
abbrev WE (W W' : World) : Prop := Below W.heap.size W W'
theorem Row.keep {xs : List Int} {v : Value} {x y : World} (h : Row xs v x) (hb : WE x y) : Row xs v y := by
  obtain ⟨g, e, hg⟩ := h
  exact ⟨g, e, (hb.block g (Array.getElem?_eq_some_iff.1 hg).1).trans hg⟩
theorem WV_keep : ∀ j u x y, WV j u x → WE x y → WV j u y := by
  intro j u x y h1 h2
  unfold WV at h1 ⊢
  split at h1 <;> first | exact h1 | exact h1.keep h2
attribute [irreducible] d1 d1v
set_option maxHeartbeats 1000000 in
set_option maxRecDepth 10000 in
theorem works_any (w : World) : Calls Try.prog 11 #[] w fun e w' => e = .returned (.bool true) ∧ Below w.heap.size w w' := by
  have hc := conv3
  have hz := zeroD
  have h1s : d1.size ≤ 32 := by rw [d1_size]; omega
  go_enter Try.func11, Try.ntmps11
  go_wp2_with fail
  refine (wire_GetNum.calls 10 _ _ _ _ _ v1).mono ?_
  rintro e w1 ⟨rfl, hb1⟩
  go_wp2_with fail
  refine (wire_Text.calls 10 _ _ _ v2).mono ?_
  rintro e w2 ⟨rfl, hb2⟩
  go_wp2_with fail
  rw [c1]
  refine (wire_GetText.calls 10 _ _ _ _ _ _ v3).mono ?_
  rintro e w3 ⟨rfl, hb3⟩
  go_wp2_with fail
  refine (wire_Frame.calls 10 _ _ _ v4).mono ?_
  rintro e w4 ⟨rfl, hb4⟩
  go_wp2_with fail
  rw [c2]
  refine (wire_GetFrame.calls 10 _ _ _ _ _ v5).mono ?_
  rintro e w5 ⟨rfl, hb5⟩
  go_wp2_with (refine Calm.wpList_val rfl (Calm.run_op_build (t := 28) (parts := #[(0, .const (.int .u8 1))]) (ps := #[(0, .int .u8 1)]) rfl ?_ (build_d1' _)) ?_; (case refine_1 => simp [Act.eval]))
  refine (sum_any d1 d1_size _).mono ?_
  rintro e w6 ⟨rfl, hb6⟩
  go_wp2_with fail
  rw [d1_cat]
  refine (getsum_yes d1v (by rw [d1v_size]; omega) (by rw [d1v_size]; omega) _).mono ?_
  rw [d1v_size, d1v_a, d1v_b]
  rintro e w7 ⟨rfl, hb7⟩
  go_wp2_with (refine wpList_store_row rfl 28 (.tmp 10) (.tmp 39) rfl w7.heap.size (dcells d1) rfl rfl 28 zcells (heap_alloc_new w7 _) (by rw [sizeD, dcells_size, d1_size]) (by rw [zcells_size, dcells_size, d1_size]) (dcells_one _) ?_; rw [World.setRow_alloc_new])
  have hall : Below w.heap.size w (w7.alloc (.cells (dcells d1) 28)) := by
    have b1 : Below w.heap.size w w1 := ((Below.refl _ _).alloc (Nat.le_refl _) _).trans (hb1.mono (by simp))
    have b2 := b1.trans (hb2.mono b1.size)
    have b3 := b2.trans (hb3.mono b2.size)
    have b4 := b3.trans (hb4.mono b3.size)
    have b5 := b4.trans (hb5.mono b4.size)
    have b6 := b5.trans (hb6.mono b5.size)
    have b7 := b6.trans (hb7.mono b6.size)
    exact b7.alloc b7.size _
  clear hb1 hb2 hb3 hb4 hb5 hb6 hb7 hc hz
  refine Calm.calm_region (WS w w7) WE WV [1, 2, 3, 4, 5, 6, 7, 8, 9, 10, 11, 12] (by kernel_rfl) (by kernel_rfl) (by kernel_rfl) WV_keep (fun _ => Below.refl _ _) ⟨hall.drew, heap_alloc_new w7 _⟩ ?_ ?_
  · simp only [Calm.Steps, Calm.Step]
    refine ⟨?_, ?_, ?_, ?_, ?_, ?_, ?_, ?_, ?_, ?_, ?_, ?_, ?_, ?_, ?_, ?_, ?_, ?_, ?_, ?_, ?_, ?_, ?_, ?_, ?_, ?_, ?_, ?_, ?_, ?_, ?_, ?_, ?_, ?_, ?_, ?_, ?_, ?_, ?_, ?_, ?_, ?_, ?_, ?_, ?_, ?_, ?_, ?_, ?_, ?_, ?_, ?_, trivial⟩ <;> intro a W hS hN hF <;> simp [Calm.needs, Calm.same, Calm.Left, WV, WC, Region.binds] at hN hF
    any_goals first
      | (refine Calm.step_val (Calm.wanted_none rfl) _ ?_ hS (Below.refl _ _) rfl; simp [go_sem, Act.eval, hN, WC]; done)
      | (refine Calm.step_val (Calm.wanted_on rfl rfl rfl ?_) _ ?_ hS (Below.refl _ _) rfl
         · simp [hN]
         · simp [go_sem, Act.eval, hN, hF, WC])
      | skip
    · refine Calm.step_call (Calm.wanted_none rfl) (f := 14) (args := #[.int .i64 300]) (w1 := W) (by simp [go_sem, Act.eval]) ((wire_Num.calls 10 _ _ _ v6).mono ?_)
      rintro e w' ⟨rfl, hb⟩
      exact ⟨_, rfl, hS.next hb, hb, rfl⟩
    · have hb : Below W.heap.size W (W.alloc (.cells #[.int .u8 172, .int .u8 2] 5)) := (Below.refl _ _).alloc (Nat.le_refl _) _
      exact Calm.step_val (Calm.wanted_none rfl) (.slice (some ⟨W.heap.size, 0, none⟩) 2 2) (w' := W.alloc (.cells #[.int .u8 172, .int .u8 2] 5)) (by simp [go_sem, Act.eval]) (hS.next hb) hb ⟨_, rfl, heap_alloc_new W _⟩
    · obtain ⟨g, e, hg⟩ := hN
      have hc := conv_row W g 2 [172, 2] hg rfl
      exact Calm.step_val (Calm.wanted_none rfl) (.string ⟨#[172, 2]⟩) (by simp [go_sem, Act.eval, e, hc]; rfl) hS (Below.refl _ _) rfl
    · have hb : Below W.heap.size W (W.alloc (.cells #[.int .u8 9] 5)) := (Below.refl _ _).alloc (Nat.le_refl _) _
      exact Calm.step_val (Calm.wanted_on rfl rfl rfl (by simp [hN])) (.slice (some ⟨W.heap.size, 0, none⟩) 1 1) (w' := W.alloc (.cells #[.int .u8 9] 5)) (by simp [go_sem, Act.eval]) (hS.next hb) hb ⟨_, rfl, heap_alloc_new W _⟩
    · obtain ⟨⟨g, e, hr⟩, hg⟩ := hN
      have hc := conv_row W g 1 [9] hr rfl
      exact Calm.step_val (Calm.wanted_on rfl rfl rfl (by simp [hg])) (.string ⟨#[9]⟩) (by simp [go_sem, Act.eval, e, hc]; rfl) hS (Below.refl _ _) rfl
    · have hl := run_loadVar_row (P := Try.prog) W w7.heap.size 28 28 (dcells d1) (0, 0) _ hS.d Try.underlying28 rfl (by rw [sizeD, dcells_size, d1_size])
      exact Calm.step_val (Calm.wanted_on rfl rfl rfl (by simp [hN])) (.agg (dcells d1)) (Calm.run_op_load rfl (Calm.eval_tmp hF.2.2.2.2.2.2.2.2.2.1) (by simp only [Instr.loadAt, Instr.sureAddr, Sem.run_bind, Sem.run_pure, Result.andThen_ok, hl])) hS (Below.refl _ _) rfl
    · exact Calm.step_val (Calm.wanted_on rfl rfl rfl (by simp [hN])) (.agg (dcells d1)) (Calm.run_op_build (t := 28) (parts := #[(0, .const (.int .u8 1))]) (ps := #[(0, .int .u8 1)]) rfl (by simp [Act.eval]) (build_d1' _)) hS (Below.refl _ _) rfl
    · have he := eq_same d1 d1_size W
      exact Calm.step_val (Calm.wanted_on rfl rfl rfl (by simp [hN])) (.bool true) (by simp [execOp, Act.eval, hN, he, guard_same]) hS (Below.refl _ _) rfl
  · intro a W hI
    have h0 : a.tmps.getD 0 undef = .bool true := hI.left 51 rfl
    have hdf := hI.d
    have hb := hI.s.b
    clear hI h1s
    go_wp2_with fail
    exact bodyPost_ret (results_tmp rfl _ _ _) hdf ⟨by rw [h0], hb⟩
end Go.Proofs.Ytgdhbmdhgejnkaa.WireW
