/- The walks of a chip's Revive, Fuse, Fail and Erase. -/
import Derived.Test.YtfjnjhlmmdeilaaChipQ
import Derived.Laws.EntriesVeiled
set_option linter.unusedVariables false
namespace Go.Proofs.Ytfjnjhlmmdeilaa.ChipA
open Go.RowKit Go.Proofs.Ytfjnjhlmmdeilaa.ChipM

section
variable {own : Nat → Prop} {w w' : World} {m : Chp} {c bb : Nat} {cs : Array Value} {fz : Option Nat} {fl : Nat → Option Nat}
theorem revive_own (h : Own own w m c bb cs fz fl) : Own own ((w.setCell ⟨c, 3, none⟩ (.bool false)).setCell ⟨c, 4, none⟩ (.pointer none)) (revive m) c bb cs none fl := (h.dead false).unfuse
theorem revive_any (h : Own own w m c bb cs fz fl) :
    Calls Try.prog 18 #[.pointer (some ⟨c, 0, none⟩)] w fun e w' => e = .returned (.tuple #[]) ∧ w' = (w.setCell ⟨c, 3, none⟩ (.bool false)).setCell ⟨c, 4, none⟩ (.pointer none) := by
  have c3 := h.c3
  have c4 := h.c4
  have hf := h.cfroz
  generalize m.dead = d at c3
  generalize ptr fz = z at c4
  clear h
  go_enter Try.func18, Try.ntmps18
  go_wp2_with fail
  go_end0
  exact ⟨rfl, rfl⟩
theorem fuse_off (h : Own own w m c bb cs fz fl) (n : Int) (hn : n < 0) (t : ByteArray) :
    Calls Try.prog 16 #[.pointer (some ⟨c, 0, none⟩), .int .i64 n, .string t] w fun e w' => e = .returned (.tuple #[]) ∧ w' = w.setCell ⟨c, 4, none⟩ (.pointer none) := by
  have c4 := h.c4
  have hf := h.cfroz
  generalize ptr fz = z at c4
  clear h
  go_enter Try.func16, Try.ntmps16
  go_wp2_with fail
  go_end0
  exact ⟨rfl, rfl⟩
def fuseW (w : World) (c n : Nat) (t : ByteArray) : World := ((w.setCell ⟨c, 4, none⟩ (.pointer none)).alloc (.cells #[.int .i64 (n : Int), .string t] 67)).setCell ⟨c, 4, none⟩ (.pointer (some ⟨w.heap.size, 0, none⟩))
theorem fuse_own (h : Own own w m c bb cs fz fl) (n : Nat) (t : ByteArray) : Own (more own w) (fuseW w c n t) { m with fuse := some (n, t) } c bb cs (some w.heap.size) fl := by
  have := h.unfuse.fuse n t
  unfold more at this ⊢
  rw [setCell_size] at this
  exact this
theorem fuse_on (h : Own own w m c bb cs fz fl) (n : Nat) (hn : n ≤ 9223372036854775807) (t : ByteArray) :
    Calls Try.prog 16 #[.pointer (some ⟨c, 0, none⟩), .int .i64 (n : Int), .string t] w fun e w' => e = .returned (.tuple #[]) ∧ w' = fuseW w c (min n 1073741824) t := by
  have h2 := h.unfuse.alloc (.cells #[.int .i64 ((min n 1073741824 : Nat) : Int), .string t] 67)
  have d4 := h2.c4
  have df := h2.cfroz 4
  have c4 := h.c4
  have hf := h.cfroz
  unfold ptr at d4
  simp only [Option.map_none] at d4
  generalize ptr fz = z at c4
  unfold fuseW
  clear h h2
  by_cases hlt : n ≤ 1073741824
  · rw [Nat.min_eq_left hlt] at d4 df ⊢
    go_enter Try.func16, Try.ntmps16
    go_wp2_with fail
    go_end0
    exact ⟨rfl, rfl⟩
  · rw [Nat.min_eq_right (by omega), show ((1073741824 : Nat) : Int) = 1073741824 from rfl] at d4 df ⊢
    go_enter Try.func16, Try.ntmps16
    go_wp2_with fail
    go_end0
    exact ⟨rfl, rfl⟩
theorem fail_no (h : Own own w m c bb cs fz fl) (hn : m.n ≤ 64) {b : Int} (hb : there m b = false) (t : ByteArray) :
    Calls Try.prog 35 #[.pointer (some ⟨c, 0, none⟩), .int .i64 b, .string t] w fun e w' => e = .returned (.tuple #[]) ∧ w' = w.alloc (.cells #[.string t] 9) := by
  have ca := at_no (h.alloc (.cells #[.string t] 9)) hn hb
  clear h hb hn
  go_enter Try.func35, Try.ntmps35
  go_wp2_with fail
  refine ca.mono ?_
  rintro e w' ⟨rfl, rfl⟩
  go_wp2_with fail
  go_end0
  exact ⟨rfl, rfl⟩
theorem fail_yes (h : Own own w m c bb cs fz fl) (hn : m.n ≤ 64) {k : Nat} (hk : k < m.n) (t : ByteArray) :
    Calls Try.prog 35 #[.pointer (some ⟨c, 0, none⟩), .int .i64 (k : Int), .string t] w fun e w' => e = .returned (.tuple #[]) ∧ w' = (w.alloc (.cells #[.string t] 9)).setCell ⟨bb, k * 36 + 35, none⟩ (.pointer (some ⟨w.heap.size, 0, none⟩)) := by
  have h2 := h.alloc (.cells #[.string t] 9)
  have ca := at_yes h2 hn hk
  have c35 := h2.b35 hk
  have hf := h2.bfroz
  generalize ptr (fl k) = z at c35
  generalize k * 36 = o at ca c35
  clear h h2 hn hk
  go_enter Try.func35, Try.ntmps35
  go_wp2_with fail
  refine ca.mono ?_
  rintro e w' ⟨rfl, rfl⟩
  go_wp2_with fail
  go_end0
  exact ⟨rfl, rfl⟩
theorem run_clear (W : World) (h : W.heap[bb]? = some (.cells cs 62 (0, 0))) (k : Nat) (hf : k * 36 + 36 ≤ cs.size) :
    (Builtin.clear_ #[32] 0 #[.slice (some ⟨bb, k * 36, none⟩) 32 32]).run Try.prog W = .ok (.tuple #[]) (W.setRow bb (blankRow cs k)) := by
  have hz : (zeroValue 9).run Try.prog W = .ok (.string ⟨#[]⟩) W := by kernel_rfl
  have hl : (Builtin.zeroCells (Value.string ⟨#[]⟩).cells 32).toList = List.replicate 32 (Value.string ⟨#[]⟩) := by kernel_rfl
  have hs : (storeCells ⟨bb, k * 36, none⟩ (List.replicate 32 (Value.string ⟨#[]⟩))).run Try.prog W = .ok () (W.setRow bb (blankRow cs k)) :=
    run_storeCells_at Try.prog bb (k * 36) 62 (List.replicate 32 (Value.string ⟨#[]⟩)) 0 cs W h (by simp; omega) (by simp [Value.oneCell'])
  simp [Builtin.clear_, run_underlying Try.underlying32, hz]
  rw [hl, hs]
  rfl
theorem blank_any (h : Own own w m c bb cs fz fl) {k : Nat} (hk : k < m.n) (hw : (m.blk k).worn < 9223372036854775807) (kx : Nat) (hkx : w.cell? ⟨kx, 0, none⟩ = some (.pointer (some ⟨bb, k * 36, none⟩))) (hx : bb ≠ kx) :
    Calls Try.prog 26 #[.pointer (some ⟨kx, 0, none⟩)] w fun e w' => e = .returned (.tuple #[]) ∧ w' = blankW w bb k cs (m.blk k).worn := by
  have hc := run_clear w h.hb k (h.fits hk)
  have e0 := setRow_heap w bb cs (blankRow cs k) _ _ h.hb
  have hf := h.fits hk
  have f0 := fun o => frozen_of_row _ _ o _ _ e0
  have c32 : (w.setRow bb (blankRow cs k)).cell? ⟨bb, k * 36 + 32, none⟩ = some (.int .i64 ((m.blk k).text.length : Int)) := by
    rw [cell_of_row _ _ _ _ _ _ e0, blankRow_get hf, if_neg (by omega)]; exact (h.bs k hk).n
  have c33 : (w.setRow bb (blankRow cs k)).cell? ⟨bb, k * 36 + 33, none⟩ = some (.int .i64 ((m.blk k).worn : Int)) := by
    rw [cell_of_row _ _ _ _ _ _ e0, blankRow_get hf, if_neg (by omega)]; exact (h.bs k hk).w
  have cx : (w.setRow bb (blankRow cs k)).cell? ⟨kx, 0, none⟩ = some (.pointer (some ⟨bb, k * 36, none⟩)) := by
    rw [← hkx]; exact World.cell?_of_block (w := w) (setRow_other w bb kx _ hx.symm)
  unfold blankW
  generalize (m.blk k).worn = n at hw c33
  generalize ((m.blk k).text.length : Int) = q at c32
  generalize blankRow cs k = rw' at hc e0 f0 c32 c33 cx
  generalize k * 36 = o at hc hkx c32 c33 cx
  clear h hf hk e0
  go_enter Try.func26, Try.ntmps26
  go_wp2_with fail
  go_end0
  exact ⟨rfl, rfl⟩
theorem enters26 (xs : Array Value) (W : World) : (callFunc 26 xs).run Try.prog W = .ok (.enter 26 xs) W := by kernel_rfl
theorem enters28 (xs : Array Value) (W : World) : (callFunc 28 xs).run Try.prog W = .ok (.enter 28 xs) W := by kernel_rfl
theorem enters29 (xs : Array Value) (W : World) : (callFunc 29 xs).run Try.prog W = .ok (.enter 29 xs) W := by kernel_rfl
theorem none_any (t : ByteArray) : Calls Try.prog 29 #[.string t] w fun e w' => e = .returned (.tuple #[]) ∧ w' = w := by
  go_enter Try.func29, Try.ntmps29
  go_wp2_with fail
  go_end0
  exact ⟨rfl, rfl⟩
theorem dies_any (h : Own own w m c bb cs fz fl) {k : Nat} (hk : k < m.n) (hw : (m.blk k).worn < 9223372036854775807) (kx kf : Nat) (hkx : w.cell? ⟨kx, 0, none⟩ = some (.pointer (some ⟨bb, k * 36, none⟩))) (hx : bb ≠ kx)
    (hkf : w.cell? ⟨kf, 0, none⟩ = some (.func (.func 26) #[] #[.pointer (some ⟨kx, 0, none⟩)])) (t : ByteArray) :
    Calls Try.prog 28 #[.string t, .pointer (some ⟨kf, 0, none⟩)] w fun e w' => e = .returned (.tuple #[]) ∧ w' = blankW w bb k cs (m.blk k).worn := by
  have cb := blank_any h hk hw kx hkx hx
  clear h hk hw hkx hx
  go_enter Try.func28, Try.ntmps28
  go_wp2_with fail
  refine cb.mono ?_
  rintro e w' ⟨rfl, rfl⟩
  go_wp2_with fail
  go_end0
  exact ⟨rfl, rfl⟩
theorem Foot.blankW {own : Nat → Prop} {w : World} {bb k n : Nat} {cs : Array Value} (h : own bb) : Foot own w (blankW w bb k cs n) := by
  have h1 : Foot own w (w.setRow bb (blankRow cs k)) := ⟨rfl, rfl, rfl, by rw [size_setRow]; exact Nat.le_refl _, fun i _ ho => setRow_other _ _ _ _ (fun e => ho (e ▸ h))⟩
  exact (h1.trans (Foot.setCell _ _ _ h)).trans (Foot.setCell _ _ _ h)
theorem blank_goes (h : Own own w m c bb cs fz fl) {k : Nat} (hk : k < m.n) : Goes own w (blankW w bb k cs (m.blk k).worn) c bb (ChipM.blank m k) := by
  obtain ⟨cs', h'⟩ := h.blank hk
  exact ⟨⟨_, _, _, h'⟩, Foot.blankW h.ob⟩
def eraseW (w : World) (x f : Value) : World := (w.alloc (.cells #[x] 57)).alloc (.cells #[f] 1)
theorem eraseW_cell (w : World) (x f : Value) : (eraseW w x f).cell? ⟨w.heap.size, 0, none⟩ = some x ∧ (eraseW w x f).cell? ⟨w.heap.size + 1, 0, none⟩ = some f := by
  unfold eraseW
  constructor
  · rw [cell_of_row _ _ _ _ _ _ (heap_alloc2_old w _ _)]; rfl
  · rw [cell_of_row _ _ _ _ _ _ (heap_alloc2_new w _ _)]; rfl
theorem eraseW_size (w : World) (x f : Value) : (eraseW w x f).heap.size = w.heap.size + 2 := by simp [eraseW]
theorem erase_dead (h : Own own w m c bb cs fz fl) (hn : m.n ≤ 64) (hd : m.dead = true) (b : Int) :
    Calls Try.prog 11 #[.pointer (some ⟨c, 0, none⟩), .int .i64 b] w fun e w' => e = .returned (.int .i64 14) ∧ Below w.heap.size w w' := by
  have ca : ∃ x, Calls Try.prog 25 #[.pointer (some ⟨c, 0, none⟩), .int .i64 b] w fun e w' => e = .returned (.pointer x) ∧ w' = w := by
    cases hb : there m b with
    | false => exact ⟨_, at_no h hn hb⟩
    | true =>
      obtain ⟨k, rfl, hk⟩ := there_of hb
      exact ⟨_, at_yes h hn hk⟩
  obtain ⟨x, ca⟩ := ca
  have c3 := (h.alloc (.cells #[.pointer x] 57)).c3
  rw [hd] at c3
  clear h hd
  go_enter Try.func11, Try.ntmps11
  go_wp2_with fail
  refine ca.mono ?_
  rintro e w' ⟨rfl, rfl⟩
  go_wp2_with fail
  go_ret
  exact ⟨rfl, below_alloc _ _⟩
theorem erase_none (h : Own own w m c bb cs fz fl) (hn : m.n ≤ 64) (hd : m.dead = false) {b : Int} (hb : there m b = false) :
    Calls Try.prog 11 #[.pointer (some ⟨c, 0, none⟩), .int .i64 b] w fun e w' => e = .returned (.int .i64 1) ∧ Below w.heap.size w w' := by
  have ca := at_no h hn hb
  have c3 := (h.alloc (.cells #[.pointer none] 57)).c3
  rw [hd] at c3
  clear h hd hb
  go_enter Try.func11, Try.ntmps11
  go_wp2_with fail
  refine ca.mono ?_
  rintro e w' ⟨rfl, rfl⟩
  go_wp2_with fail
  go_ret
  exact ⟨rfl, below_alloc _ _⟩
theorem erase_goes (h : Own own w m c bb cs fz fl) (hn : m.n ≤ 64) (hfu : ∀ n t, m.fuse = some (n, t) → n ≤ 1073741824) (hd : m.dead = false) {k : Nat} (hk : k < m.n) (hwk : (m.blk k).worn < 9223372036854775807) :
    Calls Try.prog 11 #[.pointer (some ⟨c, 0, none⟩), .int .i64 (k : Int)] w (DeedPost own w c bb (deed m k (fun m => ChipM.blank m k) (fun m _ => ChipM.blank m k) (fun m _ => m))) := by
  have ca := at_yes h hn hk
  have hb4 := h.alloc (.cells #[.pointer (some ⟨bb, k * 36, none⟩)] 57)
  have c3 := hb4.c3
  rw [hd] at c3
  have hlt := h.lt
  have hdeed : Calls Try.prog 27 #[.pointer (some ⟨c, 0, none⟩), .pointer (some ⟨bb, k * 36, none⟩),
      .func (.func 26) #[] #[.pointer (some ⟨w.heap.size, 0, none⟩)],
      .func (.func 28) #[] #[.pointer (some ⟨w.heap.size + 1, 0, none⟩)],
      .func (.func 29) #[] #[]]
      (eraseW w (.pointer (some ⟨bb, k * 36, none⟩)) (.func (.func 26) #[] #[.pointer (some ⟨w.heap.size, 0, none⟩)]))
      (DeedPost own w c bb (deed m k (fun m => ChipM.blank m k) (fun m _ => ChipM.blank m k) (fun m _ => m))) := by
    have hsz := eraseW_size w (.pointer (some ⟨bb, k * 36, none⟩)) (.func (.func 26) #[] #[.pointer (some ⟨w.heap.size, 0, none⟩)])
    obtain ⟨x0, x1⟩ := eraseW_cell w (.pointer (some ⟨bb, k * 36, none⟩)) (.func (.func 26) #[] #[.pointer (some ⟨w.heap.size, 0, none⟩)])
    have hbA : Own own (eraseW w (.pointer (some ⟨bb, k * 36, none⟩)) (.func (.func 26) #[] #[.pointer (some ⟨w.heap.size, 0, none⟩)])) m c bb cs fz fl := hb4.alloc _
    have hfA : Foot own w (eraseW w (.pointer (some ⟨bb, k * 36, none⟩)) (.func (.func 26) #[] #[.pointer (some ⟨w.heap.size, 0, none⟩)])) := (Foot.alloc own w _).trans (Foot.alloc own _ _)
    generalize eraseW w (.pointer (some ⟨bb, k * 36, none⟩)) (.func (.func 26) #[] #[.pointer (some ⟨w.heap.size, 0, none⟩)]) = WA at hsz x0 x1 hbA hfA
    have no : ∀ i, w.heap.size ≤ i → ¬ own i := fun i hi ho => by have := hlt i ho; omega
    have hbx : ∀ i, w.heap.size ≤ i → bb ≠ i := fun i hi e => no i hi (e ▸ h.ob)
    refine (deed_any hbA hk hfu (fun m => ChipM.blank m k) (fun m _ => ChipM.blank m k) (fun m _ => m) (fun _ _ => rfl) _ _ _ _ _ _ enters26 enters28 enters29 ?_ ?_ ?_).mono ?_
    · intro w1 cs1 fz1 fl1 h1 f1
      refine (blank_any h1 hk hwk _ (f1.cell (by omega) (no _ (by omega)) x0) (hbx _ (by omega))).mono ?_
      rintro e w2 ⟨rfl, rfl⟩
      exact ⟨rfl, blank_goes h1 hk⟩
    · intro t w1 cs1 fz1 fl1 h1 f1
      refine (dies_any h1 hk hwk _ _ (f1.cell (by omega) (no _ (by omega)) x0) (hbx _ (by omega)) (f1.cell (by omega) (no _ (by omega)) x1) t).mono ?_
      rintro e w2 ⟨rfl, rfl⟩
      exact ⟨rfl, blank_goes h1 hk⟩
    · intro t w1 cs1 fz1 fl1 h1 f1
      refine (none_any t).mono ?_
      rintro e w2 ⟨rfl, rfl⟩
      exact ⟨rfl, ⟨_, _, _, h1⟩, Foot.refl _ _⟩
    · rintro e w2 ⟨he, hg⟩
      exact ⟨he, hg.1, hfA.trans hg.2⟩
  unfold eraseW at hdeed
  generalize deed m k (fun m => ChipM.blank m k) (fun m _ => ChipM.blank m k) (fun m _ => m) = r at hdeed
  generalize k * 36 = o at ca c3 hdeed
  clear h hd hb4 hfu hlt
  go_enter Try.func11, Try.ntmps11
  go_wp2_with fail
  refine ca.mono ?_
  rintro e w' ⟨rfl, rfl⟩
  go_wp2_with fail
  refine hdeed.mono ?_
  rintro e w' ⟨rfl, hg⟩
  go_wp2_with fail
  go_ret
  exact ⟨rfl, hg⟩
theorem erase_any (h : ChipAt own w c m) {K : Nat} (ok : Ok m K) (hK : K < 9223372036854775807) (b : Int) :
    Calls Try.prog 11 #[.pointer (some ⟨c, 0, none⟩), .int .i64 b] w fun e w' => e = .returned (.int .i64 (doErase m b).1) ∧ ChipAt own w' c (doErase m b).2 ∧ Foot own w w' := by
  have hC := h
  obtain ⟨bb, cs, fz, fl, h⟩ := h
  have hkeep : ∀ {e : Ending} {w' : World} {r : Int}, e = .returned (.int .i64 r) ∧ Below w.heap.size w w' → e = .returned (.int .i64 r) ∧ ChipAt own w' c m ∧ Foot own w w' := fun hh => ⟨hh.1, hC.below hh.2, Foot.of_below hh.2⟩
  unfold doErase
  cases hd : m.dead with
  | true =>
    rw [if_pos rfl]
    exact (erase_dead h ok.n1 hd b).mono fun e w' hh => hkeep hh
  | false =>
    rw [if_neg (by simp)]
    cases ht : there m b with
    | false =>
      rw [if_neg (by simp)]
      exact (erase_none h ok.n1 hd ht).mono fun e w' hh => hkeep hh
    | true =>
      obtain ⟨k, rfl, hk⟩ := there_of ht
      rw [if_pos rfl, Int.toNat_natCast]
      refine (erase_goes h ok.n1 ok.f hd hk (by have := ok.w k; omega)).mono ?_
      rintro e w' ⟨he, ⟨cs', fz', fl', h'⟩, hf⟩
      exact ⟨he, ⟨_, _, _, _, h'⟩, hf⟩
end
end Go.Proofs.Ytfjnjhlmmdeilaa.ChipA
