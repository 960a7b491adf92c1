/- The walk of chip.New. -/
import Derived.Test.YtfjnjhlmmdeilaaChipQ
import Derived.Laws.MakeOwn
set_option linter.unusedVariables false
namespace Go.Proofs.Ytfjnjhlmmdeilaa.ChipA
open Go.RowKit Go.Proofs.Ytfjnjhlmmdeilaa.ChipM

def zb : Array Value := Array.replicate 32 (.string ⟨#[]⟩) ++ #[.int .i64 0, .int .i64 0, .bool false, .pointer none]
def rowN (n : Nat) : Array Value := madeCells zb (n * 36)
theorem infoB : (Try.prog.info? 62).map (fun i => (i.zero, i.size, i.bytes)) = some (some (.agg zb), 36, 544) := by kernel_rfl
theorem madeB (n : Nat) (h : n ≤ 64) (W : World) : (Instr.makeSlice 53 (.int .i64 (n : Int)) (.int .i64 (n : Int))).run Try.prog W = .ok (.slice (some ⟨W.heap.size, 0, none⟩) n n) (W.alloc (.cells (rowN n) 62)) := by
  obtain ⟨i, hi, hz0, hz1, hz2⟩ := info_parts infoB
  have := run_make (P := Try.prog) W 53 62 i (.agg zb) Try.underlying53 hi hz0 .i64 .i64 n n (by omega) (by omega) (by rw [hz2]; omega) (by omega)
  rw [this, hz1]
  rfl
theorem zb_size : zb.size = 36 := rfl
theorem zb_get (q : Nat) : zb[q]? = if q < 32 then some (.string ⟨#[]⟩) else (#[Value.int .i64 0, .int .i64 0, .bool false, .pointer none] : Array Value)[q - 32]? := by
  unfold zb
  rw [Array.getElem?_append]
  simp only [Array.size_replicate]
  by_cases h : q < 32
  · rw [if_pos h, if_pos h, Array.getElem?_replicate, if_pos h]
  · rw [if_neg h, if_neg h]
theorem rowN_get (n k q : Nat) (hk : k < n) (hq : q < 36) : (rowN n)[k * 36 + q]? = zb[q]? := by
  have hz : zb[q]? = some zb[q]! := by rw [getElem!_pos zb q (by rw [zb_size]; exact hq)]; exact Array.getElem?_eq_getElem _
  unfold rowN madeCells
  have hlt : k * 36 + q < n * 36 := by omega
  rw [Array.getElem?_map, Array.getElem?_range, if_pos hlt, hz, zb_size]
  simp only [Option.map_some]
  rw [show (k * 36 + q) % 36 = q by omega]
theorem rowN_blank (n k : Nat) (hk : k < n) : BlkAt (rowN n) (k * 36) Blk.blank none := by
  have g := fun q hq => rowN_get n k q hk hq
  refine ⟨fun q hq => ⟨⟨#[]⟩, by rw [g q (by omega), zb_get, if_pos hq]⟩, fun q hq => ?_, ?_, ?_, ?_, ?_⟩
  · simp [Blk.blank] at hq
  · rw [g 32 (by omega), zb_get]; rfl
  · rw [g 33 (by omega), zb_get]; rfl
  · rw [g 34 (by omega), zb_get]; rfl
  · rw [g 35 (by omega), zb_get]; rfl
def newW (w : World) (n p d : Nat) : World := (w.alloc (.cells (rowN n) 62)).alloc (.cells #[.slice (some ⟨w.heap.size, 0, none⟩) n n, .int .i64 p, .int .i64 d, .bool false, .pointer none] 56)
theorem newW_own (w : World) (n p d : Nat) : Own (fun k => k = w.heap.size ∨ k = w.heap.size + 1) (newW w n p d) (new n p d) (w.heap.size + 1) w.heap.size (rowN n) none (fun _ => none) where
  oc := Or.inr rfl
  ob := Or.inl rfl
  lt := fun k hk => by simp [newW]; omega
  ne := by omega
  hc := heap_alloc2_new w _ _
  hb := heap_alloc2_old w _ _
  bs := fun b hb => rowN_blank n b hb
  f0 := by simp [new]
  f1 := fun z hz => by cases hz
  l0 := fun b hb => by simp [new, Blk.blank]
  l1 := fun b hb z hz => by cases hz
theorem newW_below (w : World) (n p d : Nat) : Below w.heap.size w (newW w n p d) := below_step (below_alloc _ _) (below_alloc _ _)
/-- May a chip be so large? -/
def sizes (n p d : Int) : Bool := within n 2 64 && within p 2 32 && within d 32 256
attribute [irreducible] rowN
theorem new_yes (n p d : Nat) (hn : n ≤ 64) (h : sizes n p d = true) (w : World) :
    Calls Try.prog 10 #[.int .i64 (n : Int), .int .i64 (p : Int), .int .i64 (d : Int)] w fun e w' => e = .returned (.tuple #[.pointer (some ⟨w.heap.size + 1, 0, none⟩), .int .i64 0]) ∧ w' = newW w n p d := by
  unfold sizes at h
  simp only [Bool.and_eq_true] at h
  have h1 := within_any (n : Int) 2 64
  have h2 := within_any (p : Int) 2 32
  have h3 := within_any (d : Int) 32 256
  rw [h.1.1] at h1
  rw [h.1.2] at h2
  rw [h.2] at h3
  have hm := madeB n hn
  unfold newW
  clear h
  go_enter Try.func10, Try.ntmps10
  go_wp2_with fail
  refine (h1 _).mono ?_
  rintro e w' ⟨rfl, rfl⟩
  go_wp2_with fail
  refine (h2 _).mono ?_
  rintro e w' ⟨rfl, rfl⟩
  go_wp2_with fail
  refine (h3 _).mono ?_
  rintro e w' ⟨rfl, rfl⟩
  go_wp2_with fail
  go_ret2
  exact ⟨rfl, rfl⟩
theorem new_no (n p d : Int) (h : sizes n p d = false) (w : World) :
    Calls Try.prog 10 #[.int .i64 n, .int .i64 p, .int .i64 d] w fun e w' => e = .returned (.tuple #[.pointer none, .int .i64 1]) ∧ w' = w := by
  unfold sizes at h
  have h1 := within_any n 2 64
  have h2 := within_any p 2 32
  have h3 := within_any d 32 256
  cases e1 : within n 2 64 with
  | false =>
    rw [e1] at h1
    clear h h2 h3 e1
    go_enter Try.func10, Try.ntmps10
    go_wp2_with fail
    refine (h1 _).mono ?_
    rintro e w' ⟨rfl, rfl⟩
    go_wp2_with fail
    go_ret2
    exact ⟨rfl, rfl⟩
  | true =>
    cases e2 : within p 2 32 with
    | false =>
      rw [e1] at h1
      rw [e2] at h2
      clear h h3 e1 e2
      go_enter Try.func10, Try.ntmps10
      go_wp2_with fail
      refine (h1 _).mono ?_
      rintro e w' ⟨rfl, rfl⟩
      go_wp2_with fail
      refine (h2 _).mono ?_
      rintro e w' ⟨rfl, rfl⟩
      go_wp2_with fail
      go_ret2
      exact ⟨rfl, rfl⟩
    | true =>
      have e3 : within d 32 256 = false := by rw [e1, e2] at h; simpa using h
      rw [e1] at h1
      rw [e2] at h2
      rw [e3] at h3
      clear h e1 e2 e3
      go_enter Try.func10, Try.ntmps10
      go_wp2_with fail
      refine (h1 _).mono ?_
      rintro e w' ⟨rfl, rfl⟩
      go_wp2_with fail
      refine (h2 _).mono ?_
      rintro e w' ⟨rfl, rfl⟩
      go_wp2_with fail
      refine (h3 _).mono ?_
      rintro e w' ⟨rfl, rfl⟩
      go_wp2_with fail
      go_ret2
      exact ⟨rfl, rfl⟩
end Go.Proofs.Ytfjnjhlmmdeilaa.ChipA
