/- cenotaphlaw13.ChipWears: it returns true, whatever it is given. -/
import Derived.Test.YtfjnjhlmmdeilaaChipW
import Derived.Test.YtfjnjhlmmdeilaaOpen
set_option linter.unusedVariables false
namespace Go.Proofs.Ytfjnjhlmmdeilaa.ChipWears
open Go.RowKit Go.Proofs.Ytfjnjhlmmdeilaa.ChipM Go.Proofs.Ytfjnjhlmmdeilaa.ChipA Go.Proofs.Ytfjnjhlmmdeilaa.ChipC

/-- A chip whose blocks were erased so often. -/
def wn (f : Nat → Nat) : Chp := ⟨4, 2, 32, fun b => ⟨[], f b, false, none⟩, false, none⟩
def inc (f : Nat → Nat) (b : Nat) : Nat → Nat := fun k => if k = b then f k + 1 else f k
theorem wn_new : new 4 2 32 = wn fun _ => 0 := rfl
theorem wn_ok {f : Nat → Nat} {K : Nat} (h : ∀ b, f b ≤ K) : Ok (wn f) K := ⟨by simp [wn], by simp [wn], by simp [wn], by simp [wn], by simp [wn], by simp [wn], fun b => Nat.zero_le _, h, fun n t e => by cases e⟩
theorem wn_there (f : Nat → Nat) (b : Int) : there (wn f) b = (decide (0 ≤ b) && decide (b ≤ 3)) := rfl
theorem wn_no {f : Nat → Nat} {b : Int} (h : b < 0 ∨ 3 < b) : doErase (wn f) b = (1, wn f) := by
  have ht : there (wn f) b = false := by rw [wn_there]; simp; omega
  unfold doErase
  rw [ht]
  rfl
theorem wn_yes {f : Nat → Nat} {k : Nat} (h : k < 4) : doErase (wn f) (k : Int) = (0, wn (inc f k)) := by
  have ht : there (wn f) (k : Int) = true := by rw [wn_there]; simp; omega
  unfold doErase
  rw [ht]
  have e : wn (inc f k) = ChipM.blank (wn f) k := by
    unfold wn ChipM.blank setB inc
    congr 1
    funext b
    by_cases hb : b = k
    · subst hb; simp
    · simp [hb]
  rw [e]
  rfl
theorem wn_next (f : Nat → Nat) (b : Int) : next (wn f) b = 0 := by
  unfold next at_
  split <;> rfl
theorem wn_worn (f : Nat → Nat) (k : Nat) (h : k < 4) : worn (wn f) (k : Int) = (f k : Int) := by
  have ht : there (wn f) (k : Int) = true := by rw [wn_there]; simp; omega
  unfold worn at_
  rw [ht]
  rfl
def cells4 (f : Nat → Nat) : Array Value := #[.int .i64 (f 0 : Int), .int .i64 (f 1 : Int), .int .i64 (f 2 : Int), .int .i64 (f 3 : Int)]
theorem cells4_get (f : Nat → Nat) (k : Nat) (h : k < 4) : (cells4 f)[k]? = some (.int .i64 (f k : Int)) := by
  have : k = 0 ∨ k = 1 ∨ k = 2 ∨ k = 3 := by omega
  rcases this with rfl | rfl | rfl | rfl <;> rfl
theorem cells4_inc (f : Nat → Nat) (k : Nat) (h : k < 4) : (cells4 f).setIfInBounds k (.int .i64 ((f k : Int) + 1)) = cells4 (inc f k) := by
  have : k = 0 ∨ k = 1 ∨ k = 2 ∨ k = 3 := by omega
  rcases this with rfl | rfl | rfl | rfl <;> rfl
/-- What holds at each round. -/
structure At (w : World) (own : Nat → Prop) (c nb : Nat) (f : Nat → Nat) (k : Nat) (W : World) : Prop where
  h : ChipAt own W c (wn f)
  b : Below w.heap.size w W
  n : W.heap[nb]? = some (.cells (cells4 f) 28 (0, 0))
  no : ¬ own nb
  o : ∀ i, own i → w.heap.size ≤ i
  nw : w.heap.size ≤ nb
  le : ∀ b, f b ≤ k
attribute [irreducible] cells4 wn
section
variable {w W W' : World} {own : Nat → Prop} {c nb k : Nat} {f : Nat → Nat}
theorem At.told (h : At w own c nb f k W) {r : Int × Chp} {e : Ending} (ht : ToldC own W c r e W') (hr : r.2 = wn f) : At w own c nb f (k + 1) W' where
  h := by rw [← hr]; exact ht.h
  b := h.b.trans ((ht.f.below h.b.size h.o))
  n := (ht.f.block nb (Array.getElem?_eq_some_iff.1 h.n).1 h.no).trans h.n
  no := h.no
  o := h.o
  nw := h.nw
  le := fun b => Nat.le_succ_of_le (h.le b)
theorem At.row (h : At w own c nb f k W) {r : Int × Chp} {e : Ending} (ht : ToldC own W c r e W') : W'.heap[nb]? = some (.cells (cells4 f) 28 (0, 0)) :=
  (ht.f.block nb (Array.getElem?_eq_some_iff.1 h.n).1 h.no).trans h.n
theorem At.inc (h : At w own c nb f k W) {r : Int × Chp} {e : Ending} (ht : ToldC own W c r e W') {b : Nat} (hb : b < 4) (hr : r.2 = wn (inc f b)) :
    At w own c nb (ChipWears.inc f b) (k + 1) (W'.setCell ⟨nb, b, none⟩ (.int .i64 ((f b : Int) + 1))) where
  h := by
    have h1 := ht.h
    rw [hr] at h1
    exact h1.other _ _ h.no
  b := (h.b.trans ((ht.f.below h.b.size h.o))).setCell h.nw _
  n := by rw [heap_setCell_same _ _ _ _ _ _ (h.row ht), cells4_inc f b hb]
  no := h.no
  o := h.o
  nw := h.nw
  le := fun i => by
    have := h.le i
    unfold ChipWears.inc
    split <;> omega
theorem At.drewN (h : At w own c nb f k W) (n : Nat) : At w own c nb f k (W.drewN n) := ⟨h.h.drewN n, below_drewN h.b n, h.n, h.no, h.o, h.nw, h.le⟩
end
set_option maxHeartbeats 2000000 in
set_option maxRecDepth 100000 in
theorem wears_main (a : Option Addr) (len cap : Nat) (z : Nat → Int) (w : World) (hl : len ≤ 60) (hc : ∀ i, i < len → ∃ x, a = some x ∧ w.cell? (x.add i) = some (.int .i64 (z i)) ∧ (x.add i).block < w.heap.size) :
    Calls Try.prog 3 #[.slice a len cap] w fun e w' => e = .returned (.bool true) ∧ Below w.heap.size w w' := by
  have hnew := new_c 4 2 32 (by decide +kernel)
  have q1 : decide (60 < (len : Int)) = false := decide_eq_false (by omega)
  have q2 : decide (60 < len) = false := decide_eq_false (by omega)
  go_enter Try.func3, Try.ntmps3
  go_wp2_with fail
  refine (ChipW.works_any _).mono ?_
  rintro e w1 ⟨rfl, hb1⟩
  go_wp2_with fail
  refine (hnew _).mono ?_
  rintro e w2 ⟨rfl, h2, f2⟩
  rw [wn_new] at h2
  have hA : At w (fun k => k = w1.heap.size ∨ k = w1.heap.size + 1) (w1.heap.size + 1) w2.heap.size (fun _ => 0) 0 (w2.alloc (.cells (cells4 fun _ => 0) 28)) :=
    ⟨h2.alloc _, (hb1.trans (f2.mono hb1.size)).alloc (Nat.le_trans hb1.size f2.size) _, heap_alloc_new _ _, fun hk => by have := h2.lt w2.heap.size hk; omega, fun i hi => by have := hb1.size; omega, Nat.le_trans hb1.size f2.size, fun _ => Nat.le_refl _⟩
  have hA := Lib.hid hA
  clear h2 f2 hb1 hnew
  go_wp2_with fail
  generalize hown : (fun k => k = w1.heap.size ∨ k = w1.heap.size + 1) = own at hA
  generalize w1.heap.size + 1 = c at hA
  generalize w2.heap.size = nb at hA
  have hA0 : Hid (At w own c nb (fun _ => 0) 0 (w2.alloc (.cells #[.int .i64 0, .int .i64 0, .int .i64 0, .int .i64 0] 28))) := Lib.hid (by have := hA.out; unfold cells4 at this; exact this)
  clear hA hown q1 q2
  go_loopw [7] (fun i wr => ∃ k f, k ≤ len ∧ i = .int .i64 (k : Nat) ∧ At w own c nb f k wr) (fun i _ => len - (intOf i).toNat)
  case atStart => exact ⟨0, _, by omega, rfl, hA0.out⟩
  case round =>
    obtain ⟨k, f, hk, rfl, hT⟩ := hrel
    clear hA0
    by_cases hlt : k < len
    · obtain ⟨x, rfl, hx, hxb⟩ := hc k hlt
      have hx0 := (hT.b.cell hxb).trans hx
      clear hc
      generalize z k = b at hx hx0
      by_cases hb : b < 0 ∨ 3 < b
      · have pe := erase_c hT.h (wn_ok hT.le) (by omega) b
        rw [wn_no hb] at pe
        have hT := Lib.hid hT
        rcases hb with hb | hb
        all_goals
          go_wp2_with fail
          refine pe.mono ?_
          rintro e w' ⟨rfl, h', f'⟩
          have hT' := Lib.hid (hT.out.told (e := .returned (.int .i64 1)) ⟨rfl, h', f'⟩ rfl)
          have hx1 := (hT'.out.b.cell hxb).trans hx
          clear h' f' pe hx0
          go_wp2_with fail
          go_roundw
          case rel => exact ⟨k + 1, f, by omega, by go_num, hT'.out⟩
          case measure => simp [intOf]; omega
      · obtain ⟨q, rfl⟩ : ∃ q : Nat, b = (q : Int) := ⟨b.toNat, by omega⟩
        have hq : q < 4 := by omega
        have hq2 : ¬ ((q : Int) < 0) := by omega
        have hq3 : ¬ (3 < (q : Int)) := by omega
        have pe := erase_c hT.h (wn_ok hT.le) (by omega) (q : Int)
        rw [wn_yes hq] at pe
        have hfle : f q ≤ k := hT.le q
        have hT := Lib.hid hT
        clear hb
        go_wp2_with fail
        refine pe.mono ?_
        rintro e w' ⟨rfl, h', f'⟩
        have hrow := hT.out.row (e := .returned (.int .i64 0)) (r := (0, wn (inc f q))) ⟨rfl, h', f'⟩
        have hT' := Lib.hid (hT.out.inc (e := .returned (.int .i64 0)) (r := (0, wn (inc f q))) ⟨rfl, h', f'⟩ hq rfl)
        have hbe : Below w.heap.size w w' := hT.out.b.trans (f'.below hT.out.b.size hT.out.o)
        have hx1 := (hbe.cell hxb).trans hx
        have hcq : w'.cell? ⟨nb, q, none⟩ = some (.int .i64 (f q : Int)) := by rw [cell_of_row _ _ _ _ _ _ hrow]; exact cells4_get f q hq
        have hfq := frozen_of_row _ _ q _ _ hrow
        have hx2 := (hT'.out.b.cell hxb).trans hx
        have pn := next_c hT'.out.h (wn_ok hT'.out.le) (q : Int)
        rw [wn_next] at pn
        have hf0 : (0 : Int) ≤ (f q : Int) := by omega
        have hf1 : (f q : Int) ≤ 60 := by omega
        generalize (f q : Int) = v at hcq hT' hx2 pn hf0 hf1
        clear h' f' pe hx0 hrow hbe hfle
        go_wp2_with fail
        refine pn.mono ?_
        rintro e w'' ⟨rfl, rfl⟩
        go_wp2_with fail
        go_roundw
        case rel => exact ⟨k + 1, _, by omega, by go_num, hT'.out⟩
        case measure => simp [intOf]; omega
    · obtain rfl : k = len := by omega
      go_wp2_with fail
      clear hc
      go_loopw [9] (fun i wr' => ∃ q : Nat, q ≤ 4 ∧ i = .int .i64 q ∧ At w own c nb f k wr') (fun i _ => 4 - (intOf i).toNat)
      case atStart => exact ⟨0, by omega, rfl, hT⟩
      case round =>
        obtain ⟨q, hq, rfl, hU⟩ := hrel
        clear hT
        by_cases hlq : q < 4
        · have pw := fun n => worn_c (hU.h.drewN n) (wn_ok hU.le) (q : Int)
          rw [wn_worn f q hlq] at pw
          have hcq : wr.cell? ⟨nb, q, none⟩ = some (.int .i64 (f q : Int)) := by rw [cell_of_row _ _ _ _ _ _ hU.n]; exact cells4_get f q hlq
          have hq4 : (q : Int) < 4 := by omega
          have hU := Lib.hid hU
          generalize (f q : Int) = v at pw hcq
          go_wp2_with fail
          go_quiet ((go_at_call 13; exact Calls.quiet_of_same (pw _)))
          go_wp2_with fail
          go_roundw
          case rel => exact ⟨q + 1, by omega, by go_num, hU.out.drewN _⟩
          case measure => simp [intOf]; omega
        · obtain rfl : q = 4 := by omega
          go_wp2_with fail
          go_ret
          exact ⟨rfl, hU.b⟩
set_option maxHeartbeats 2000000 in
set_option maxRecDepth 100000 in
theorem wears_row {v : Value} {w : World} (a : Option Addr × Nat × Nat × (Nat → Int)) (h : Open.IntsAt w v a) :
    Calls Try.prog 3 #[v] w fun e w' => e = .returned (.bool true) ∧ Below w.heap.size w w' := by
  obtain ⟨a, len, cap, z⟩ := a
  obtain ⟨rfl, hc⟩ := h
  simp only at hc
  by_cases hl : len ≤ 60
  · exact wears_main a len cap z w hl hc
  · have hnew := new_c 4 2 32 (by decide +kernel)
    have q1 : decide (60 < (len : Int)) = true := decide_eq_true (by omega)
    have q2 : decide (60 < len) = true := decide_eq_true (by omega)
    clear hc hl
    go_enter Try.func3, Try.ntmps3
    go_wp2_with fail
    refine (ChipW.works_any _).mono ?_
    rintro e w1 ⟨rfl, hb1⟩
    go_wp2_with fail
    refine (hnew _).mono ?_
    rintro e w2 ⟨rfl, h2, f2⟩
    go_wp2_with fail
    go_ret
    exact ⟨rfl, hb1.trans (f2.mono hb1.size)⟩
end Go.Proofs.Ytfjnjhlmmdeilaa.ChipWears
