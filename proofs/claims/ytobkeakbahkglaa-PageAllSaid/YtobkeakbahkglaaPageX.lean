/- cenotaphlaw14.works: it returns true. -/
import Derived.Test.YtobkeakbahkglaaPageN
import Derived.Test.YtobkeakbahkglaaCalmF
set_option linter.unusedVariables false
namespace Go.Proofs.Ytobkeakbahkglaa.PageX
open Go.RowKit Go.Shelf Go.Proofs.Ytobkeakbahkglaa.ChipM Go.Proofs.Ytobkeakbahkglaa.ChipA Go.Proofs.Ytobkeakbahkglaa.ChipC Go.Proofs.Ytobkeakbahkglaa.PageE Go.Proofs.Ytobkeakbahkglaa.PageM Go.Proofs.Ytobkeakbahkglaa.PageG Go.Proofs.Ytobkeakbahkglaa.PageL Go.Proofs.Ytobkeakbahkglaa.PageN Go.Proofs.Ytobkeakbahkglaa.PageP

def abc : ByteArray := ⟨#[97, 98, 99]⟩
def torn : ByteArray := ⟨#[116, 111, 114, 110]⟩
abbrev P1 : Array Value := pcells 1 300 2 1 ⟨#[97, 98, 99]⟩
theorem valid1 : valid 1 300 2 1 ⟨#[97, 98, 99]⟩ = true := by decide +kernel
theorem got_torn : got ⟨#[116, 111, 114, 110]⟩ = noPage := by
  unfold got
  have : WireM.getFrame (WireM.L ⟨#[116, 111, 114, 110]⟩) = none := by decide +kernel
  rw [this]
def s0 : ByteArray := PageM.put 1 300 2 1 ⟨#[97, 98, 99]⟩
theorem got0 : got s0 = (1, 300, 2, 1, ⟨#[97, 98, 99]⟩, true) := got_put valid1
theorem gotx : got (s0 ++ ⟨#[120]⟩) = (0, 0, 0, 0, ⟨#[]⟩, false) := got_more (x := [120]) valid1 (by simp)
theorem numB_le1 (n : Nat) (h : n < 16384) : (WireM.numB n).length ≤ 2 := WireM.numB_len n 1 (by omega)
theorem put_size (k s o l : Int) (t : ByteArray) : (PageM.put k s o l t).size ≤ 262 := by
  unfold PageM.put
  split
  · rename_i h
    have hl := body_len h
    have h2 := numB_le1 (body k s o l t).length (by omega)
    rw [WireP.B_size]
    unfold WireM.frame WireM.text
    simp only [List.length_append, WireM.le4_length]
    omega
  · exact Nat.zero_le _
theorem s0_size : s0.size ≤ 64 := by
  unfold s0 PageM.put
  rw [if_pos valid1, WireP.B_size]
  have hl := body_length 1 300 2 1 ⟨#[97, 98, 99]⟩
  have h3 : (⟨#[97, 98, 99]⟩ : ByteArray).size = 3 := rfl
  rw [h3] at hl
  have h2 := numB_le1 (body 1 300 2 1 ⟨#[97, 98, 99]⟩).length (by omega)
  unfold WireM.frame WireM.text
  simp only [List.length_append, WireM.le4_length]
  omega
attribute [irreducible] s0
/-- The texts of the chip. -/
def T2 : Nat → List ByteArray := ins (ins (fun _ => []) 1 s0) 1 ⟨#[116, 111, 114, 110]⟩
theorem T2_1 : T2 1 = [s0, ⟨#[116, 111, 114, 110]⟩] := rfl
theorem T2_o {k : Nat} (h : k ≠ 1) : T2 k = [] := by unfold T2 ins; rw [if_neg h, if_neg h]
theorem T2_len (k : Nat) : (T2 k).length ≤ 2 := by
  by_cases h : k = 1
  · rw [h, T2_1]; exact Nat.le_refl _
  · rw [T2_o h]; exact Nat.zero_le _
theorem T2_size (k : Nat) : ∀ t ∈ T2 k, t.size ≤ 256 := by
  intro t ht
  by_cases h : k = 1
  · rw [h, T2_1] at ht
    simp only [List.mem_cons, List.not_mem_nil, or_false] at ht
    rcases ht with rfl | rfl
    · have := s0_size; omega
    · decide +kernel
  · rw [T2_o h] at ht
    cases ht
theorem T2_short : Short (tx 2 2 64 T2) := tx_short T2_size
theorem T2_ok : Ok (tx 2 2 64 T2) 0 := tx_ok (by decide +kernel) T2_len
theorem T2_spots : spots (upto T2_short (tx 2 2 64 T2).n) = [(1, 0, 1, 300, 2, 1, ⟨#[97, 98, 99]⟩)] := by
  show spots (upto T2_short 2) = _
  rw [spots_upto T2_short T2_len 2 (Nat.le_refl _)]
  unfold spAll spAll spAll
  rw [T2_1, T2_o (by decide)]
  unfold spRow spRow spRow sp1
  rw [got0, got_torn]
  rfl
theorem put_a : doProgram (new 2 2 64) 1 0 s0 = (0, tx 2 2 64 (ins (fun _ => []) 1 s0)) := tx_put (b := 1) (T := fun _ => []) (by decide) (by decide) s0_size
theorem put_b : doProgram (tx 2 2 64 (ins (fun _ => []) 1 s0)) 1 1 ⟨#[116, 111, 114, 110]⟩ = (0, tx 2 2 64 T2) := tx_put (b := 1) (T := ins (fun _ => []) 1 s0) (by decide) (by simp [ins]) (by decide +kernel)
theorem ok_a : Ok (tx 2 2 64 (ins (fun _ => []) 1 s0)) 0 := tx_ok (by decide +kernel) fun k => by unfold ins; split <;> simp
/-- A page's block. -/
def PB (W : World) (g : Nat) (k s o l : Int) (t : ByteArray) : Prop := W.heap[g]? = some (.cells (pcells k s o l t) 24 (0, 0))
section
variable {W W' : World} {g : Nat} {k s o l : Int} {t : ByteArray}
theorem PB.below (h : PB W g k s o l t) (hb : Below W.heap.size W W') : PB W' g k s o l t := (hb.block g (Array.getElem?_eq_some_iff.1 h).1).trans h
theorem PB.c0 (h : PB W g k s o l t) : W.cell? ⟨g, 0, none⟩ = some (.int .i64 k) := by rw [cell_of_row _ _ _ _ _ _ h]; rfl
theorem PB.c1 (h : PB W g k s o l t) : W.cell? ⟨g, 1, none⟩ = some (.int .i64 s) := by rw [cell_of_row _ _ _ _ _ _ h]; rfl
theorem PB.c2 (h : PB W g k s o l t) : W.cell? ⟨g, 2, none⟩ = some (.int .i64 o) := by rw [cell_of_row _ _ _ _ _ _ h]; rfl
theorem PB.c3 (h : PB W g k s o l t) : W.cell? ⟨g, 3, none⟩ = some (.int .i64 l) := by rw [cell_of_row _ _ _ _ _ _ h]; rfl
theorem PB.c4 (h : PB W g k s o l t) : W.cell? ⟨g, 4, none⟩ = some (.string t) := by rw [cell_of_row _ _ _ _ _ _ h]; rfl
end
theorem spotSize : (Try.prog.info? 49).map (·.size) = some 7 := by kernel_rfl
/-- A page and where it is, read as a whole. -/
theorem run_load_spot (w : World) (g k : Nat) (cs : List Value) (hl : cs.length = 7) (h : ∀ j v, cs[j]? = some v → w.cell? ⟨g, k + j, none⟩ = some v) :
    (Instr.loadAt 49 (.pointer (some ⟨g, k, none⟩))).run Try.prog w = .ok (.agg cs.toArray) w := by
  have hl1 : (loadCells ⟨g, k, none⟩ 7).run Try.prog w = .ok cs.toArray w := by
    have := run_loadCells_list (P := Try.prog) w ⟨g, k, none⟩ cs (fun j v hv => by
      rw [show (⟨g, k, none⟩ : Addr).add j = ⟨g, k + j, none⟩ by unfold Addr.add; split <;> simp_all]
      exact h j v hv)
    rw [hl] at this
    exact this
  have hagg : (isAgg 49).run Try.prog w = .ok true w := by
    unfold isAgg
    rw [Sem.run_bind, run_underlying Try.underlying49 w]
    rfl
  have hlv : (loadVar 49 ⟨g, k, none⟩).run Try.prog w = .ok (.agg cs.toArray) w := by
    cases hq : Try.prog.info? 49 with
    | none => have := spotSize; rw [hq] at this; cases this
    | some i =>
      have hs : i.size = 7 := by have := spotSize; rw [hq] at this; simpa using this
      simp [loadVar, sizeOf, typeInfo, hq, hs, hl1, hagg]
  simp only [Instr.loadAt, Instr.sureAddr, Sem.run_bind, Sem.run_pure, Result.andThen_ok, hlv]
/-! The last statement. -/
abbrev S7 : List Value := [.int .i64 1, .int .i64 0, .int .i64 1, .int .i64 300, .int .i64 2, .int .i64 1, .string ⟨#[97, 98, 99]⟩]
structure WS (w : World) (p3 g : Nat) (cur : Array Value) (W : World) : Prop where
  b : Below w.heap.size w W
  p1 : PB W w.heap.size 1 300 2 1 ⟨#[97, 98, 99]⟩
  p3 : PB W p3 1 300 2 1 ⟨#[97, 98, 99]⟩
  r : W.heap[g]? = some (.cells cur 49 (0, 0))
  c : cur.toList.take 7 = S7
theorem WS.next {w W W' : World} {p3 g : Nat} {cur : Array Value} (h : WS w p3 g cur W) (hb : Below W.heap.size W W') : WS w p3 g cur W' :=
  ⟨h.b.trans (hb.mono h.b.size), h.p1.below hb, h.p3.below hb, (hb.block _ (Array.getElem?_eq_some_iff.1 h.r).1).trans h.r, h.c⟩
theorem WS.spot {w W : World} {p3 g : Nat} {cur : Array Value} (h : WS w p3 g cur W) : (Instr.loadAt 49 (.pointer (some ⟨g, 0, none⟩))).run Try.prog W = .ok (.agg S7.toArray) W :=
  run_load_spot W g 0 S7 rfl fun j v hj => by
    have hj7 : j < 7 := (List.getElem?_eq_some_iff.1 hj).1
    rw [Nat.zero_add, cell_of_row _ _ _ _ _ _ h.r, ← hj, ← h.c, List.getElem?_take, if_pos hj7]
    simp
theorem load_page {W : World} {g : Nat} {k s o l : Int} {t : ByteArray} (h : PB W g k s o l t) : (Instr.loadAt 24 (.pointer (some ⟨g, 0, none⟩))).run Try.prog W = .ok (.agg (pcells k s o l t)) W := by
  have hl := run_loadVar_row (P := Try.prog) W g 24 24 (pcells k s o l t) (0, 0) _ h Try.underlying24 rfl (by rw [size24]; rfl)
  simp only [Instr.loadAt, Instr.sureAddr, Sem.run_bind, Sem.run_pure, Result.andThen_ok, hl]
def WC (g cap : Nat) : Nat → Value
  | 0 => .agg P1
  | 1 => .agg P1
  | 15 => .agg P1
  | 37 => .agg P1
  | 7 => .bool false
  | 11 => .int .i64 32
  | 19 => .agg (pcells 2 0 0 0 ⟨#[]⟩)
  | 20 => .bool false
  | 24 => .agg (pcells 0 (-1) 0 0 ⟨#[]⟩)
  | 25 => .string ⟨#[]⟩
  | 29 => .slice (some ⟨g, 0, none⟩) 1 cap
  | 34 => .slice (some ⟨g, 0, none⟩) 1 cap
  | 30 => .int .i64 1
  | 35 => .pointer (some ⟨g, 0, none⟩)
  | 36 => .agg S7.toArray
  | 38 => .agg S7.toArray
  | _ => .bool true
def WV (g cap : Nat) (i : Nat) (v : Value) (_ : World) : Prop := v = WC g cap i
theorem eq_page (w : World) : (binOp .eql 24 (.agg P1) (.agg P1)).run Try.prog w = .ok (.bool true) w := by kernel_rfl
theorem guard_page (x y : Operand) (w : World) : (eqGuard .eql 24 x y (.agg P1) (.agg P1)).run Try.prog w = .ok () w := run_eqGuard_agg (P := Try.prog) w .eql 24 x y _ _ (by kernel_rfl)
theorem eq_spot (w : World) : (binOp .eql 49 (.agg S7.toArray) (.agg S7.toArray)).run Try.prog w = .ok (.bool true) w := by kernel_rfl
theorem build_2 (W : World) : (Instr.build 24 #[(0, .int .i64 2)]).run Try.prog W = .ok (.agg (pcells 2 0 0 0 ⟨#[]⟩)) W := by kernel_rfl
theorem build_m (W : World) : (Instr.build 24 #[(1, .int .i64 (-1))]).run Try.prog W = .ok (.agg (pcells 0 (-1) 0 0 ⟨#[]⟩)) W := by kernel_rfl
theorem build_s (W : World) : (Instr.build 49 #[(0, .int .i64 1), (2, .agg P1)]).run Try.prog W = .ok (.agg S7.toArray) W := by kernel_rfl
theorem room64 : Go.Proofs.Ytobkeakbahkglaa.Fn.page_Room.f 64 = some 32 := by kernel_rfl
theorem valid2 : valid 2 0 0 0 ⟨#[]⟩ = false := by decide +kernel
theorem putm : PageM.put 0 (-1) 0 0 ⟨#[]⟩ = ⟨#[]⟩ := by
  have : valid 0 (-1) 0 0 ⟨#[]⟩ = false := by decide +kernel
  unfold PageM.put
  rw [this]
  rfl
set_option maxHeartbeats 4000000 in
set_option maxRecDepth 100000 in
theorem works_any (w : World) : Calls Try.prog 8 #[] w fun e w' => e = .returned (.bool true) ∧ Below w.heap.size w w' := by
  have hp1 : PB (w.alloc (.cells P1 24)) w.heap.size 1 300 2 1 ⟨#[97, 98, 99]⟩ := heap_alloc_new _ _
  have c0 := hp1.c0
  have c1 := hp1.c1
  have c2 := hp1.c2
  have c3 := hp1.c3
  have c4 := hp1.c4
  go_enter Try.func8, Try.ntmps8
  go_wp2_with (refine wpList_store_row rfl 24 (.tmp 1) (.tmp 10) rfl w.heap.size P1 rfl rfl 24 zpage (heap_alloc_new _ _) (by rw [size24]; rfl) rfl (pcells_one _ _ _ _ _) ?_; rw [World.setRow_alloc_new])
  refine (put_any 1 300 2 1 ⟨#[97, 98, 99]⟩ _).mono ?_
  rintro e w1 ⟨rfl, hb1⟩
  have hs0 : PageM.put 1 300 2 1 ⟨#[97, 98, 99]⟩ = s0 := by unfold s0; rfl
  rw [hs0]
  have hz := s0_size
  replace hp1 := Lib.hid (hp1.below hb1)
  have hB1 : Below w.heap.size w w1 := ((Below.refl _ _).alloc (Nat.le_refl _) _).trans (hb1.mono (by simp))
  replace hB1 := Lib.hid hB1
  clear c0 c1 c2 c3 c4 hb1
  go_wp2_with fail
  refine (get_any s0 (by omega) _ _ _ _ _ _ _ got0).mono ?_
  rintro e w2 ⟨rfl, hb2⟩
  replace hp1 := Lib.hid (hp1.out.below hb2)
  replace hB1 := Lib.hid (hB1.out.trans (hb2.mono hB1.out.size))
  clear hb2
  have hcat : (9223372036854775807 < s0.size + (⟨#[120]⟩ : ByteArray).size) = False := eq_false (by have : (⟨#[120]⟩ : ByteArray).size = 1 := rfl; omega)
  go_wp2_with (refine wpList_store_row rfl 24 (.tmp 3) (.tmp 16) rfl w2.heap.size P1 rfl rfl 24 zpage (heap_alloc_new _ _) (by rw [size24]; rfl) rfl (pcells_one _ _ _ _ _) ?_; rw [World.setRow_alloc_new])
  have hp3 : PB (w2.alloc (.cells P1 24)) w2.heap.size 1 300 2 1 ⟨#[97, 98, 99]⟩ := heap_alloc_new _ _
  replace hp1 := Lib.hid (hp1.out.below ((Below.refl _ _).alloc (Nat.le_refl _) (.cells P1 24)))
  replace hB1 := Lib.hid (hB1.out.alloc hB1.out.size (.cells P1 24))
  have hsx : (s0 ++ ⟨#[120]⟩).size ≤ 9223372036854775807 := by
    rw [ByteArray.size_append]
    have : (⟨#[120]⟩ : ByteArray).size = 1 := rfl
    omega
  have pgx := fun W => get_any (s0 ++ ⟨#[120]⟩) hsx W 0 0 0 0 ⟨#[]⟩ false gotx
  refine (pgx _).mono ?_
  clear pgx
  rintro e w3 ⟨rfl, hb3⟩
  replace hp1 := Lib.hid (hp1.out.below hb3)
  replace hp3 := Lib.hid (hp3.below hb3)
  replace hB1 := Lib.hid (hB1.out.trans (hb3.mono hB1.out.size))
  clear hb3 hcat hsx
  generalize w2.heap.size = p3 at hp3 ⊢
  go_wp2_with (refine wpList_store_row rfl 24 (.tmp 5) (.tmp 22) rfl w3.heap.size zpage rfl rfl 24 zpage (heap_alloc_new _ _) (by rw [size24]; rfl) rfl (pcells_one _ _ _ _ _) ?_; rw [World.setRow_alloc_new])
  replace hp1 := Lib.hid (hp1.out.below ((Below.refl _ _).alloc (Nat.le_refl _) (.cells zpage 24)))
  replace hp3 := Lib.hid (hp3.out.below ((Below.refl _ _).alloc (Nat.le_refl _) (.cells zpage 24)))
  replace hB1 := Lib.hid (hB1.out.alloc hB1.out.size (.cells zpage 24))
  have l1 := (Array.getElem?_eq_some_iff.1 hp1.out).1
  have l3 := (Array.getElem?_eq_some_iff.1 hp3.out).1
  refine (new_c 2 2 64 (by decide +kernel) _).mono ?_
  rintro e w4 ⟨rfl, h4, f4⟩
  replace hp1 := Lib.hid (hp1.out.below f4)
  replace hp3 := Lib.hid (hp3.out.below f4)
  have hB4 := Lib.hid (hB1.out.trans (f4.mono hB1.out.size))
  clear hB1
  have hlo := f4.size
  generalize (w3.alloc (.cells zpage 24)).heap.size = c0 at h4 hlo l1 l3 ⊢
  have pa := program_c h4 (ok_new (by decide +kernel)) 1 0 s0
  rw [put_a] at pa
  go_wp2_with fail
  refine pa.mono ?_
  rintro e w5 ⟨rfl, h5, f5⟩
  have pb := program_c h5 ok_a 1 1 ⟨#[116, 111, 114, 110]⟩
  rw [put_b] at pb
  clear pa
  go_wp2_with fail
  refine pb.mono ?_
  rintro e w6 ⟨rfl, h6, f6⟩
  have pl := callsIn_wide.1 (all_in 3 (by omega) (c0 + 1) 0 _ T2_short T2_ok w6 h6 (upto_most T2_short T2_ok))
  rw [T2_spots] at pl
  clear pb
  go_wp2_with fail
  refine pl.mono ?_
  rintro e w7 ⟨v, rfl, hrow, hb7⟩
  clear pl
  have hp1' : PB w7 w.heap.size 1 300 2 1 ⟨#[97, 98, 99]⟩ := PB.below ((f6.block _ (Nat.lt_of_lt_of_le (by omega) f5.size) (by omega)).trans ((f5.block _ (by omega) (by omega)).trans hp1.out)) hb7
  have hp3' : PB w7 p3 1 300 2 1 ⟨#[97, 98, 99]⟩ := PB.below ((f6.block _ (Nat.lt_of_lt_of_le (by omega) f5.size) (by omega)).trans ((f5.block _ (by omega) (by omega)).trans hp3.out)) hb7
  have hs4 := hB4.out.size
  have hB7 : Below w.heap.size w w7 := by
    have b5 := hB4.out.trans (f5.below hs4 fun k hk => by omega)
    have b6 := b5.trans (f6.below b5.size fun k hk => by omega)
    exact b6.trans (hb7.mono b6.size)
  obtain ⟨g, cap, rfl⟩ := ownsRow_succ hrow
  have hrg : ∃ cur, w7.heap[g]? = some (.cells cur 49 (0, 0)) ∧ cur.toList.take 7 = S7 := by
    rcases hrow.2 with ⟨e, _⟩ | ⟨g', cap', cur, e, _, hh, _, _, _, ht⟩
    · cases e
    · simp only [Value.slice.injEq, Option.some.injEq, Addr.mk.injEq] at e
      obtain ⟨⟨rfl, _⟩, _⟩ := e
      exact ⟨cur, hh, ht⟩
  obtain ⟨cur, hr, hcur⟩ := hrg
  have hS : WS w p3 g cur w7 := ⟨hB7, hp1', hp3', hr, hcur⟩
  clear hp1 hp3 hp1' hp3' hB4 hB7 hr hcur hrow hb7 f4 f5 f6 h4 h5 h6 l1 l3 hlo hs4
  go_wp2_with fail
  refine Calm.calm_region (WS w p3 g cur) (fun W W' => Below W.heap.size W W') (WV g cap) [1, 2, 3, 4, 5, 6, 7, 8, 9] (by kernel_rfl) (by kernel_rfl) (by kernel_rfl) (fun _ _ _ _ h _ => h) (fun _ => Below.refl _ _) (hS.next (below_drewN (Below.refl _ _) 1)) ?_ ?_
  · simp only [Calm.Steps, Calm.Step]
    refine ⟨?_, ?_, ?_, ?_, ?_, ?_, ?_, ?_, ?_, ?_, ?_, ?_, ?_, ?_, ?_, ?_, ?_, ?_, ?_, ?_, ?_, ?_, ?_, ?_, ?_, ?_, ?_, ?_, ?_, ?_, ?_, ?_, ?_, ?_, ?_, ?_, ?_, ?_, ?_, ?_, ?_, ?_, trivial⟩ <;> intro a W hS hN hF <;> simp [Calm.needs, Calm.same, Calm.Left, WV, WC, Region.binds] at hN hF
    any_goals first
      | (refine Calm.step_val (Calm.wanted_none rfl) _ ?_ hS (Below.refl _ _) rfl; simp [go_sem, Act.eval, hN, hF, WC]; done)
      | (refine Calm.step_val (Calm.wanted_on rfl rfl rfl ?_) _ ?_ hS (Below.refl _ _) rfl
         · simp [hN]
         · simp [go_sem, Act.eval, hN, hF, WC]; done)
      | skip
    · exact Calm.step_val (Calm.wanted_none rfl) (.agg P1) (Calm.run_op_load rfl (Calm.eval_tmp hF.2.2.1) (load_page hS.p3)) hS (Below.refl _ _) rfl
    · exact Calm.step_val (Calm.wanted_none rfl) (.agg P1) (Calm.run_op_load rfl (Calm.eval_tmp hF.1) (load_page hS.p1)) hS (Below.refl _ _) rfl
    · have he := eq_page W
      exact Calm.step_val (Calm.wanted_none rfl) (.bool true) (by simp [execOp, Act.eval, hN, he, guard_page]) hS (Below.refl _ _) rfl
    · refine Calm.step_call (Calm.wanted_on rfl rfl rfl (by simp [hN])) (f := 16) (args := #[.int .i64 64]) (w1 := W) (by simp [go_sem, Act.eval]) ((Go.Proofs.Ytobkeakbahkglaa.Fn.page_Room.calls 64 32 W room64).mono ?_)
      rintro e w' ⟨rfl, hb⟩
      exact ⟨_, rfl, hS.next hb, hb, rfl⟩
    · exact Calm.step_val (Calm.wanted_on rfl rfl rfl (by simp [hN])) (.agg P1) (Calm.run_op_load rfl (Calm.eval_tmp hF.1) (load_page hS.p1)) hS (Below.refl _ _) rfl
    · have pv := valid_calls 1 300 2 1 ⟨#[97, 98, 99]⟩ W
      rw [valid1] at pv
      refine Calm.step_call (Calm.wanted_on rfl rfl rfl (by simp [hN])) (f := 13) (args := #[.agg P1]) (w1 := W) (by simp [go_sem, Act.eval, hN]) (pv.mono ?_)
      rintro e w' ⟨rfl, hb⟩
      exact ⟨_, rfl, hS.next hb, hb, rfl⟩
    · exact Calm.step_val (Calm.wanted_on rfl rfl rfl (by simp [hN])) (.agg (pcells 2 0 0 0 ⟨#[]⟩)) (Calm.run_op_build (t := 24) (parts := #[(0, .const (.int .i64 2))]) (ps := #[(0, .int .i64 2)]) rfl (by simp [Act.eval]) (build_2 _)) hS (Below.refl _ _) rfl
    · have pv := valid_calls 2 0 0 0 ⟨#[]⟩ W
      rw [valid2] at pv
      refine Calm.step_call (Calm.wanted_on rfl rfl rfl (by simp [hN])) (f := 13) (args := #[.agg (pcells 2 0 0 0 ⟨#[]⟩)]) (w1 := W) (by simp [go_sem, Act.eval, hN]) (pv.mono ?_)
      rintro e w' ⟨rfl, hb⟩
      exact ⟨_, rfl, hS.next hb, hb, rfl⟩
    · exact Calm.step_val (Calm.wanted_on rfl rfl rfl (by simp [hN])) (.agg (pcells 0 (-1) 0 0 ⟨#[]⟩)) (Calm.run_op_build (t := 24) (parts := #[(1, .const (.int .i64 (-1)))]) (ps := #[(1, .int .i64 (-1))]) rfl (by simp [Act.eval]) (build_m _)) hS (Below.refl _ _) rfl
    · have pv := put_any 0 (-1) 0 0 ⟨#[]⟩ W
      rw [putm] at pv
      refine Calm.step_call (Calm.wanted_on rfl rfl rfl (by simp [hN])) (f := 14) (args := #[.agg (pcells 0 (-1) 0 0 ⟨#[]⟩)]) (w1 := W) (by simp [go_sem, Act.eval, hN]) (pv.mono ?_)
      rintro e w' ⟨rfl, hb⟩
      exact ⟨_, rfl, hS.next hb, hb, rfl⟩
    · exact Calm.step_val (Calm.wanted_on rfl rfl rfl (by simp [hN])) (.agg S7.toArray) (Calm.run_op_load rfl (Calm.eval_tmp (by simp [hN])) hS.spot) hS (Below.refl _ _) rfl
    · exact Calm.step_val (Calm.wanted_on rfl rfl rfl (by simp [hN])) (.agg P1) (Calm.run_op_load rfl (Calm.eval_tmp hF.1) (load_page hS.p1)) hS (Below.refl _ _) rfl
    · exact Calm.step_val (Calm.wanted_on rfl rfl rfl (by simp [hN])) (.agg S7.toArray) (Calm.run_op_build (t := 49) (parts := #[(0, .const (.int .i64 1)), (2, .tmp 78)]) (ps := #[(0, .int .i64 1), (2, .agg P1)]) rfl (by simp [Act.eval, hN]) (build_s _)) hS (Below.refl _ _) rfl
  · intro a W hI
    have h0 : a.tmps.getD 0 undef = .bool true := hI.left 41 rfl
    have hdf := hI.d
    have hb := hI.s.b
    clear hI
    go_wp2_with fail
    exact bodyPost_ret (results_tmp rfl _ _ _) hdf ⟨by rw [h0], hb⟩
end Go.Proofs.Ytobkeakbahkglaa.PageX
