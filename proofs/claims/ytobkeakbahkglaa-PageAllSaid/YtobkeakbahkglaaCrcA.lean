/- The walks of crc.table, crc.Step and crc.More: they come to tabArr, and to the plain functions goStep and goMore. -/
import Derived.Test.YtobkeakbahkglaaProg
import Derived.WalkKit
import Derived.KernelRfl
import Derived.Outline
import Derived.Lib.Hide
import Derived.Deep.WholeRow
namespace Go.Proofs.Ytobkeakbahkglaa.CrcA
open Go.RowKit

/-! ### The table, plainly -/
/-- One bit: as the Go text has it. -/
def stepV (c : Int) : Int := bits .xor .u32 (c / 2) (bits .and .u32 3988292384 (-bits .and .u32 c 1 % 4294967296))
def tab8 (j : Nat) (c : Int) : Int := match j with | 0 => c | j + 1 => stepV (tab8 j c)
def zeros256 : Array Value := Array.replicate 256 (.int .u32 0)
def tabTo : Nat → Array Value
  | 0 => zeros256
  | k + 1 => (tabTo k).setIfInBounds k (.int .u32 (tab8 8 k))
def tabArr : Array Value := tabTo 256
def tabW (w : World) (k : Nat) : World := (w.alloc (.cells zeros256 102)).alloc (.cells (tabTo k) 102)
def tabFin (w : World) : World := (w.alloc (.cells tabArr 102)).alloc (.cells tabArr 102)
theorem zeros_size : zeros256.size = 256 := by simp [zeros256]
theorem tabTo_size : ∀ k, (tabTo k).size = 256
  | 0 => zeros_size
  | k + 1 => by simp [tabTo, tabTo_size k]
theorem tabArr_size : tabArr.size = 256 := tabTo_size 256
theorem tabTo_get : ∀ k i, i < k → k ≤ 256 → (tabTo k)[i]? = some (.int .u32 (tab8 8 i))
  | 0, i, h, _ => absurd h (by omega)
  | k + 1, i, h, hk => by
    rw [tabTo, Array.getElem?_setIfInBounds, tabTo_size]
    by_cases e : k = i
    · subst e; rw [if_pos rfl, if_pos (by omega)]
    · rw [if_neg e]; exact tabTo_get k i (by omega) (by omega)
theorem tabArr_get (i : Nat) (h : i < 256) : tabArr[i]? = some (.int .u32 (tab8 8 i)) := tabTo_get 256 i h (by omega)
theorem tabTo_one : ∀ k, (tabTo k).all (·.oneCell') = true
  | 0 => by unfold tabTo zeros256; rw [Array.all_replicate]; rfl
  | k + 1 => by
    rw [Array.all_eq_true]
    intro i hi
    have ih := Array.all_eq_true.1 (tabTo_one k)
    have hi' : i < (tabTo k).size := by simpa [tabTo] using hi
    simp only [tabTo, Array.getElem_setIfInBounds hi']
    split
    · rfl
    · exact ih i hi'
theorem tabArr_one : tabArr.all (·.oneCell') = true := tabTo_one 256

/-! ### crc.table -/
theorem zero60 (w : World) : Sem.run Try.prog (zeroValue 102) w = .ok (.agg zeros256) w := by kernel_rfl
theorem size60 : (Try.prog.info? 102).map (·.size) = some 256 := by kernel_rfl
theorem tabW_cell (w : World) (k : Nat) (hk : k < 256) : ∃ v, (tabW w k).cell? ⟨w.heap.size + 1, k, none⟩ = some v := by
  have h := cell_of_row (tabW w k) (w.heap.size + 1) k (tabTo k) 102 (0, 0) (heap_alloc2_new w _ _)
  rw [h, Array.getElem?_eq_getElem (by rw [tabTo_size]; exact hk)]
  exact ⟨_, rfl⟩
theorem tabW_frozen (w : World) (k : Nat) : (tabW w k).frozen? ⟨w.heap.size + 1, k, none⟩ = false := frozen_of_row _ _ _ _ _ (heap_alloc2_new w _ _)
theorem tabW_set (w : World) (k : Nat) : (tabW w k).setCell ⟨w.heap.size + 1, k, none⟩ (.int .u32 (tab8 8 k)) = tabW w (k + 1) := by
  show ((w.alloc (.cells zeros256 102)).alloc (.cells (tabTo k) 102)).setCell _ _ = _
  rw [setCell_eq_setRow _ _ _ _ _ _ _ (heap_alloc2_new w _ _)]
  have e : w.heap.size + 1 = (w.alloc (.cells zeros256 102)).heap.size := by simp
  rw [e]
  exact World.setRow_alloc_new _ _ _ _
theorem tabW_row (w : World) : (tabW w 256).heap[w.heap.size + 1]? = some (.cells tabArr 102 (0, 0)) := heap_alloc2_new w _ _
theorem tabW_row0 (w : World) : (tabW w 256).heap[w.heap.size]? = some (.cells zeros256 102 (0, 0)) := heap_alloc2_old w _ _
theorem tabW_fin (w : World) : (tabW w 256).setRow w.heap.size tabArr = tabFin w := by
  unfold tabW tabFin
  simp only [World.setRow, World.alloc]
  congr 1
  apply Array.ext_getElem?
  intro i
  rw [Array.getElem?_modify]
  simp only [Array.getElem?_push, Array.size_push]
  by_cases h1 : i = w.heap.size + 1
  · subst h1
    rw [if_neg (by omega), if_pos rfl, if_pos rfl]
    rfl
  · by_cases h : w.heap.size = i
    · subst h
      simp
    · simp [h, h1, show ¬ i = w.heap.size from fun e => h e.symm]
theorem tabFin_row (w : World) : (tabFin w).heap[w.heap.size]? = some (.cells tabArr 102 (0, 0)) := heap_alloc2_old w _ _
theorem tabFin_below (w : World) : Below w.heap.size w (tabFin w) := ((Below.refl _ _).alloc (Nat.le_refl _) _).alloc (by simp) _
theorem tab8_succ (j : Nat) (c : Int) : bits .xor .u32 (tab8 j c / 2) (bits .and .u32 3988292384 (-bits .and .u32 (tab8 j c) 1 % 4294967296)) = tab8 (j + 1) c := rfl

attribute [irreducible] zeros256 tabTo tabW tab8 tabArr tabFin
set_option maxHeartbeats 400000 in
set_option maxRecDepth 10000 in
theorem table_any (w : World) : Calls Try.prog 54 #[] w fun e w' => e = .returned (.agg tabArr) ∧ Below w.heap.size w w' := by
  have hz := zero60
  go_enter Try.func54, Try.ntmps54
  go_wp2_with fail
  clear hz
  go_loopw [4] (fun i wr => ∃ k : Nat, k ≤ 256 ∧ i = .int .i64 k ∧ wr = tabW w k) (fun i _ => 256 - (intOf i).toNat)
  case atStart => exact ⟨0, by omega, rfl, by unfold tabW tabTo; rfl⟩
  case round =>
    obtain ⟨k, hk, rfl, rfl⟩ := hrel
    by_cases hlt : k < 256
    · go_wp2_with fail
      go_loop [3, 9] (fun c i => ∃ j : Nat, j ≤ 8 ∧ i = .int .i64 j ∧ c = .int .u32 (tab8 j k)) (fun _ i => 8 - (intOf i).toNat)
      case atStart => exact ⟨0, by omega, rfl, by unfold tab8; rfl⟩
      case round =>
        obtain ⟨j, hj, rfl, rfl⟩ := hrel
        by_cases hlj : j < 8
        · go_wp2_with fail
          go_round
          case rel => exact ⟨j + 1, by omega, by go_num, congrArg (Value.int .u32) (tab8_succ j k)⟩
          case measure => simp [intOf]; omega
        · obtain rfl : j = 8 := by omega
          obtain ⟨v, hv⟩ := tabW_cell w k hlt
          have hf := tabW_frozen w k
          have hs := tabW_set w k
          go_wp2_with fail
          go_roundw
          case rel => exact ⟨k + 1, by omega, by go_num, rfl⟩
          case measure => simp [intOf]; omega
    · obtain rfl : k = 256 := by omega
      have hl := Lib.hid (tabW_row w)
      have h0 := Lib.hid (tabW_row0 w)
      go_wp2_with (first
        | (refine wpList_load_row rfl 102 (.tmp 1) rfl (w.heap.size + 1) rfl 102 tabArr (0, 0) _ hl.out Try.underlying102 rfl (by rw [size60, tabArr_size]) ?_)
        | (refine wpList_store_row rfl 102 (.tmp 0) (.tmp 23) rfl w.heap.size tabArr rfl rfl 102 zeros256 h0.out (by rw [size60, tabArr_size]) (by rw [zeros_size, tabArr_size]) tabArr_one ?_; rw [tabW_fin w]))
      exact bodyPost_ret (results_cell_row rfl _ _ _ _ _ _ _ rfl (tabFin_row w) Try.underlying102 rfl (by rw [size60, tabArr_size])) rfl ⟨rfl, tabFin_below w⟩

/-! ### crc.More -/
def byteAt (s : ByteArray) (k : Nat) : Int := if h : k < s.size then (s[k].toNat : Int) else 0
theorem byteAt_at (s : ByteArray) (k : Nat) : ∀ h : k < s.size, (s[k].toNat : Int) = byteAt s k := fun h => by simp [byteAt, h]
def goStep (c b : Int) : Int := bits .xor .u32 (tab8 8 (bits .xor .u8 (c % 256) b)) (c / 256)
def goTo (c : Int) (s : ByteArray) : Nat → Int
  | 0 => c
  | k + 1 => goStep (goTo c s k) (byteAt s k)
def notU (c : Int) : Int := bits .xor .u32 IntKind.u32.max c
def goMore (c : Int) (s : ByteArray) : Int := notU (goTo (notU c) s s.size)
theorem xor_u8_range (a b : Int) : ∃ n : Nat, n < 256 ∧ bits .xor .u8 a b = (n : Int) := by
  have e : bits .xor .u8 a b = IntKind.u8.wrap ((BitVec.ofInt 8 a ^^^ BitVec.ofInt 8 b).toNat : Int) := rfl
  rw [e, IntKind.wrap_u8]
  exact ⟨(BitVec.ofInt 8 a ^^^ BitVec.ofInt 8 b).toNat % 256, by omega, by omega⟩
theorem tabArr_cell (w : World) (n : Nat) (h : n < 256) : (w.alloc (.cells tabArr 102)).cell? ⟨w.heap.size, n, none⟩ = some (.int .u32 (tab8 8 n)) := by
  rw [cell_of_row _ _ _ tabArr _ _ (heap_alloc_new w _)]
  exact tabArr_get n h
theorem go_succ (c : Int) (s : ByteArray) (k n : Nat) (h : bits .xor .u8 (goTo c s k % 256) (byteAt s k) = (n : Int)) : goTo c s (k + 1) = bits .xor .u32 (tab8 8 n) (goTo c s k / 256) := by
  rw [goTo, goStep, h]
attribute [irreducible] goTo goStep byteAt
set_option maxHeartbeats 400000 in
set_option maxRecDepth 10000 in
theorem more_any (c : Int) (s : ByteArray) (w : World) (hs : s.size ≤ 9223372036854775807) : Calls Try.prog 52 #[.int .u32 c, .string s] w fun e w' => e = .returned (.int .u32 (goMore c s)) ∧ Below w.heap.size w w' := by
  have hz := zero60
  have hsg : IntKind.u32.signed = false := rfl
  go_enter Try.func52, Try.ntmps52
  go_wp2_with fail
  refine (table_any _).mono ?_
  rintro e w1 ⟨rfl, hb⟩
  go_wp2_with (refine wpList_store_row rfl 102 (.tmp 5) (.tmp 7) rfl w1.heap.size tabArr rfl rfl 102 zeros256 (heap_alloc_new w1 _) (by rw [size60, tabArr_size]) (by rw [zeros_size, tabArr_size]) tabArr_one ?_; rw [World.setRow_alloc_new])
  clear hz
  go_loop [0, 12] (fun c' i => ∃ k : Nat, k ≤ s.size ∧ i = .int .i64 k ∧ c' = .int .u32 (goTo (notU c) s k)) (fun _ i => s.size - (intOf i).toNat)
  case atStart => exact ⟨0, by omega, rfl, by unfold goTo notU; rfl⟩
  case round =>
    obtain ⟨k, hk, rfl, rfl⟩ := hrel
    by_cases hlt : k < s.size
    · have hbt := byteAt_at s k hlt
      obtain ⟨n, hn, he⟩ := xor_u8_range (goTo (notU c) s k % 256) (byteAt s k)
      have hcell := tabArr_cell w1 n hn
      have HS := Lib.hid (go_succ (notU c) s k n he)
      go_wp2_with fail
      go_round
      case rel => exact ⟨k + 1, by omega, by go_num, by rw [HS.out]⟩
      case measure => simp [intOf]; omega
    · obtain rfl : k = s.size := by omega
      go_wp2_with fail
      go_ret
      exact ⟨rfl, hb.alloc hb.size _⟩
end Go.Proofs.Ytobkeakbahkglaa.CrcA
