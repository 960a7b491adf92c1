/- cenotaphlaw01.CrcTurns: it returns true, whatever it is given. -/
import Derived.Test.YtkejhcpaklefjaaCrcV
import Derived.Test.YtkejhcpaklefjaaCalmF
import Derived.Laws.MakeOwn
namespace Go.Proofs.Ytkejhcpaklefjaa.CrcU
open Go.RowKit Go.Proofs.Ytkejhcpaklefjaa.Fn Go.Proofs.Ytkejhcpaklefjaa.CrcP Go.Proofs.Ytkejhcpaklefjaa.CrcM Go.Proofs.Ytkejhcpaklefjaa.CrcV

/-! ### Rows of bytes -/
def zs (n : Nat) : Array Value := Array.replicate n (.int .u8 0)
def bx (a b : ByteArray) (i : Nat) : Int := bits .xor .u8 (CrcA.byteAt a i) (CrcA.byteAt b i)
def both (a b : ByteArray) : Nat → Array Value
  | 0 => zs a.size
  | k + 1 => (both a b k).setIfInBounds k (.int .u8 (bx a b k))
theorem both_size (a b : ByteArray) : ∀ k, (both a b k).size = a.size
  | 0 => by simp [both, zs]
  | k + 1 => by rw [both, Array.size_setIfInBounds, both_size a b k]
theorem both_get (a b : ByteArray) : ∀ k i, i < k → k ≤ a.size → (both a b k)[i]? = some (.int .u8 (bx a b i))
  | 0, i, h, _ => absurd h (by omega)
  | k + 1, i, h, hk => by
    rw [both, Array.getElem?_setIfInBounds, both_size]
    by_cases e : k = i
    · subst e; rw [if_pos rfl, if_pos (by omega)]
    · rw [if_neg e]; exact both_get a b k i (by omega) (by omega)
theorem zs_get (n i : Nat) (h : i < n) : (zs n)[i]? = some (.int .u8 0) := by simp [zs, h]
theorem info5 : (Try.prog.info? 5).map (fun i => (i.zero, i.size, i.bytes)) = some (some (.int .u8 0), 1, 1) := by kernel_rfl
theorem made (n : Nat) (h : n ≤ 600) (W : World) : (Instr.makeSlice 33 (.int .i64 (n : Int)) (.int .i64 (n : Int))).run Try.prog W = .ok (.slice (some ⟨W.heap.size, 0, none⟩) n n) (W.alloc (.cells (zs n) 5)) := by
  obtain ⟨i, hi, hz0, hz1, hz2⟩ := info_parts info5
  have := run_make (P := Try.prog) W 33 5 i (.int .u8 0) Try.underlying33 hi hz0 .i64 .i64 n n (by omega) (by omega) (by rw [hz2]; omega) (by omega)
  rw [this, hz1]
  congr 2
  simp only [Int.toNat_natCast, Nat.mul_one, Value.cells, zs, madeCells]
  congr 1
  apply Array.ext
  · simp
  · intro i h1 h2
    simp [Nat.mod_one]
def bW (w : World) (a b : ByteArray) (k : Nat) : World := (w.alloc (.cells (zs a.size) 5)).alloc (.cells (both a b k) 5)
theorem bW_row (w : World) (a b : ByteArray) (k : Nat) : (bW w a b k).heap[w.heap.size + 1]? = some (.cells (both a b k) 5 (0, 0)) := heap_alloc2_new w _ _
theorem bW_row0 (w : World) (a b : ByteArray) (k : Nat) : (bW w a b k).heap[w.heap.size]? = some (.cells (zs a.size) 5 (0, 0)) := heap_alloc2_old w _ _
theorem bW_cell (w : World) (a b : ByteArray) (k : Nat) (hk : k < a.size) : ∃ v, (bW w a b k).cell? ⟨w.heap.size + 1, k, none⟩ = some v := by
  have h := cell_of_row (bW w a b k) (w.heap.size + 1) k (both a b k) 5 (0, 0) (bW_row w a b k)
  rw [h, Array.getElem?_eq_getElem (by rw [both_size]; exact hk)]
  exact ⟨_, rfl⟩
theorem bW_frozen (w : World) (a b : ByteArray) (k : Nat) : (bW w a b k).frozen? ⟨w.heap.size + 1, k, none⟩ = false := frozen_of_row _ _ _ _ _ (bW_row w a b k)
theorem bW_set (w : World) (a b : ByteArray) (k : Nat) : (bW w a b k).setCell ⟨w.heap.size + 1, k, none⟩ (.int .u8 (bx a b k)) = bW w a b (k + 1) := by
  show ((w.alloc (.cells (zs a.size) 5)).alloc (.cells (both a b k) 5)).setCell _ _ = _
  rw [setCell_eq_setRow _ _ _ _ _ _ _ (heap_alloc2_new w _ _)]
  have e : w.heap.size + 1 = (w.alloc (.cells (zs a.size) 5)).heap.size := by simp
  rw [e]
  exact World.setRow_alloc_new _ _ _ _
theorem bW_below (w : World) (a b : ByteArray) (k : Nat) : Below w.heap.size w (bW w a b k) := ((Below.refl _ _).alloc (Nat.le_refl _) _).alloc (by simp) _
structure TW (w1 : World) (a b : ByteArray) (k : Nat) (W : World) : Prop where
  l : Below w1.heap.size w1 W
  g : W.heap[w1.heap.size + 1]? = some (.cells (both a b k) 5 (0, 0))
  z : W.heap[w1.heap.size]? = some (.cells (zs a.size) 5 (0, 0))
theorem TW.init (w1 : World) (a b : ByteArray) : TW w1 a b 0 (bW w1 a b 0) := ⟨bW_below w1 a b 0, bW_row w1 a b 0, bW_row0 w1 a b 0⟩
theorem TW.cell {w1 : World} {a b : ByteArray} {k : Nat} {W : World} (h : TW w1 a b k W) (hk : k < a.size) : ∃ v, W.cell? ⟨w1.heap.size + 1, k, none⟩ = some v := by
  rw [cell_of_row W _ k _ _ _ h.g, Array.getElem?_eq_getElem (by rw [both_size]; exact hk)]
  exact ⟨_, rfl⟩
theorem TW.frozen {w1 : World} {a b : ByteArray} {k : Nat} {W : World} (h : TW w1 a b k W) : W.frozen? ⟨w1.heap.size + 1, k, none⟩ = false := frozen_of_row _ _ _ _ _ h.g
theorem TW.next {w1 : World} {a b : ByteArray} {k : Nat} {W : World} (h : TW w1 a b k W) : TW w1 a b (k + 1) (W.drew.setCell ⟨w1.heap.size + 1, k, none⟩ (.int .u8 (bx a b k))) := by
  refine ⟨h.l.drew.setCell (by simp) _, ?_, ?_⟩
  · rw [heap_setCell_same W.drew _ k (both a b k) _ _ h.g]
    unfold both
    cases k <;> rfl
  · rw [heap_setCell_other _ _ _ _ (by simp)]
    exact h.z
theorem TW.alike {w1 : World} {a b : ByteArray} {k : Nat} {W W' : World} (h : TW w1 a b k W) (e : W'.heap = W.heap) (h1 : W'.os = W.os) (h2 : W'.tape = W.tape) (h3 : W'.output = W.output) : TW w1 a b k W' :=
  ⟨⟨h1.trans h.l.os, h2.trans h.l.tape, h3.trans h.l.output, by rw [e]; exact h.l.size, fun i hi => by rw [e]; exact h.l.block i hi⟩, by rw [e]; exact h.g, by rw [e]; exact h.z⟩
theorem bx_eq (a b : ByteArray) (k : Nat) : bits .xor .u8 (CrcA.byteAt a k) (CrcA.byteAt b k) = bx a b k := rfl
/-! ### What they are as texts -/
theorem strOf_map (l : List UInt8) : strOfNums (l.map fun c => (c.toNat : Int)) = B l := by
  rw [strOf_B, List.map_map]
  congr 1
  have : (u8 ∘ fun c : UInt8 => (c.toNat : Int)) = id := by
    funext c
    simp [u8]
  rw [this, List.map_id]
theorem xorL_get : ∀ (p q : List UInt8) (i : Nat) (h1 : i < p.length) (h2 : i < q.length) (h3 : i < (xorL p q).length), (xorL p q)[i] = p[i] ^^^ q[i]
  | a :: p, b :: q, 0, _, _, _ => rfl
  | a :: p, b :: q, i + 1, h1, h2, h3 => by
    simp only [xorL, List.getElem_cons_succ]
    exact xorL_get p q i _ _ _
def X (a b : ByteArray) : ByteArray := B (xorL (L a) (L b))
def Z (a : ByteArray) : ByteArray := B (List.replicate a.size 0)
theorem X_size (a b : ByteArray) (h : b.size = a.size) : (X a b).size = a.size := by
  unfold X
  rw [B_size, xorL_length _ _ (by rw [← size_L, ← size_L, h]), ← size_L]
theorem Z_size (a : ByteArray) : (Z a).size = a.size := by
  unfold Z
  rw [B_size, List.length_replicate]
theorem conv_row {W : World} {g n : Nat} {cs : Array Value} (hg : W.heap[g]? = some (.cells cs 5 (0, 0))) (l : List UInt8) (hl : l.length = n) (hc : ∀ i (h : i < l.length), cs[i]? = some (.int .u8 (l[i].toNat : Int))) :
    (convert 33 9 (.slice (some ⟨g, 0, none⟩) n n)).run Try.prog W = .ok (.string (B l)) W := by
  have h := run_convert_bytes_arg (P := Try.prog) W 33 5 Try.underlying33 Try.underlying5 g 0 n n (l.map fun c => (c.toNat : Int)) (by rw [List.length_map]; exact hl) (fun i hi => by
    rw [cell_of_row _ _ _ _ _ _ hg, Nat.zero_add, hc i (by omega), List.getD_eq_getElem?_getD, List.getElem?_map, List.getElem?_eq_getElem (by omega)]
    rfl) 9 Try.underlying9
  rwa [strOf_map] at h
theorem TW.both {w1 : World} {a b : ByteArray} {W : World} (h : TW w1 a b a.size W) (hb : b.size = a.size) : (convert 33 9 (.slice (some ⟨w1.heap.size + 1, 0, none⟩) a.size a.size)).run Try.prog W = .ok (.string (X a b)) W := by
  have hl : (xorL (L a) (L b)).length = a.size := by rw [xorL_length _ _ (by rw [← size_L, ← size_L, hb]), ← size_L]
  refine conv_row h.g _ hl (fun i hi => ?_)
  have hia : i < a.size := by omega
  rw [both_get a b a.size i hia (Nat.le_refl _), xorL_get _ _ i (by rw [← size_L]; exact hia) (by rw [← size_L]; omega)]
  congr 2
  unfold bx
  rw [CrcL.byteAt_nat a i hia, CrcL.byteAt_nat b i (by omega), u8_xor_nat _ _ (UInt8.toNat_lt _) (UInt8.toNat_lt _), UInt8.toNat_xor]
theorem TW.zero {w1 : World} {a b : ByteArray} {k : Nat} {W : World} (h : TW w1 a b k W) : (convert 33 9 (.slice (some ⟨w1.heap.size, 0, none⟩) a.size a.size)).run Try.prog W = .ok (.string (Z a)) W := by
  refine conv_row h.z _ List.length_replicate (fun i hi => ?_)
  rw [List.length_replicate] at hi
  rw [zs_get a.size i hi, List.getElem_replicate]
  rfl
theorem TW.step {w1 : World} {a b : ByteArray} {k : Nat} {W W' : World} (h : TW w1 a b k W) (hs : w1.heap.size + 1 < W.heap.size) (hb : Below W.heap.size W W') : TW w1 a b k W' :=
  ⟨h.l.trans (hb.mono h.l.size), (hb.block _ hs).trans h.g, (hb.block _ (by omega)).trans h.z⟩
theorem TW.size {w1 : World} {a b : ByteArray} {k : Nat} {W : World} (h : TW w1 a b k W) : w1.heap.size + 1 < W.heap.size := (Array.getElem?_eq_some_iff.1 h.g).1
/-! ### The last statement, operation by operation -/
def UC (w1 : World) (a b : ByteArray) (x y z o : Int) : Nat → Value
  | 2 => .slice (some ⟨w1.heap.size + 1, 0, none⟩) a.size a.size
  | 3 => .string (X a b)
  | 4 => .int .u32 x
  | 5 => .string a
  | 6 => .int .u32 y
  | 7 => .string b
  | 8 => .int .u32 z
  | 9 => .int .u32 (bits .xor .u32 y z)
  | 10 => .slice (some ⟨w1.heap.size, 0, none⟩) a.size a.size
  | 11 => .string (Z a)
  | 12 => .int .u32 o
  | 13 => .int .u32 x
  | _ => .bool true
def UV (w1 : World) (a b : ByteArray) (x y z o : Int) (i : Nat) (v : Value) (_ : World) : Prop := v = UC w1 a b x y z o i
abbrev UE (W W' : World) : Prop := Below W.heap.size W W'
attribute [irreducible] zs both bW bx X Z
set_option maxHeartbeats 2000000 in
set_option maxRecDepth 100000 in
theorem turns_main (a b : ByteArray) (ha : a.size ≤ 600) (hb : b.size = a.size) (w : World) : Calls Try.prog 7 #[.string a, .string b] w fun e w' => e = .returned (.bool true) ∧ Below w.heap.size w w' := by
  have q1 : decide (600 < (a.size : Int)) = false := decide_eq_false (by omega)
  have q3 : decide (600 < a.size) = false := decide_eq_false (by omega)
  have hmk := made a.size ha
  have h0 : ∀ w1 : World, TW w1 a b 0 ((w1.alloc (.cells (zs a.size) 5)).alloc (.cells (zs a.size) 5)) := fun w1 => by
    have := TW.init w1 a b
    unfold bW CrcU.both at this
    exact this
  have hbx := bx_eq a b
  have cX := of_calls (X a b) (by rw [X_size a b hb]; omega)
  have cA := of_calls a (by omega)
  have cB := of_calls b (by omega)
  have cZ := of_calls (Z a) (by rw [Z_size]; omega)
  have hx : bits .xor .u32 (bits .xor .u32 (ofL (L a) : Int) (ofL (L b) : Int)) (ofL (L (Z a)) : Int) = (ofL (L (X a b)) : Int) := by
    have h := ofL_xor (L a) (L b) (by rw [← size_L, ← size_L, hb])
    have e1 : L (X a b) = xorL (L a) (L b) := by unfold X; rfl
    have e2 : L (Z a) = List.replicate (L a).length 0 := by unfold Z; rw [L_B, size_L]
    rw [e1, e2, h, u32_xor_nat _ _ (ofL_lt _) (ofL_lt _), u32_xor_nat _ _ (Nat.xor_lt_two_pow (n := 32) (ofL_lt _) (ofL_lt _)) (ofL_lt _)]
  generalize ((ofL (L (X a b)) : Nat) : Int) = x at cX hx
  generalize ((ofL (L a) : Nat) : Int) = y at cA hx
  generalize ((ofL (L b) : Nat) : Int) = z at cB hx
  generalize ((ofL (L (Z a)) : Nat) : Int) = o at cZ hx
  replace hx := Lib.hid hx
  go_enter Try.func7, Try.ntmps7
  go_wp2_with fail
  refine (CrcW.works_any _).mono ?_
  rintro e w1 ⟨rfl, hb1⟩
  go_wp2_with fail
  clear hmk
  go_loopw [8] (fun i wr => ∃ k : Nat, k ≤ a.size ∧ i = .int .i64 k ∧ TW w1 a b k wr) (fun i _ => a.size - (intOf i).toNat)
  case atStart => exact ⟨0, by omega, rfl, h0 w1⟩
  case round =>
    obtain ⟨k, hk, rfl, hT⟩ := hrel
    by_cases hlt : k < a.size
    · have hbk := hbx k
      clear hbx h0 cX cA cB cZ
      have ha1 := CrcA.byteAt_at a k hlt
      have hb1 := CrcA.byteAt_at b k (by omega)
      obtain ⟨v, hv⟩ := hT.cell hlt
      have hf := hT.frozen
      have hT := Lib.hid hT
      go_wp2_with fail
      go_region
      go_wp2_with fail
      go_roundw
      case rel => exact ⟨k + 1, by omega, by go_num, hT.out.next⟩
      case measure => simp [intOf]; omega
    · obtain rfl : k = a.size := by omega
      clear hbx h0 q1 q3
      have hbw := Lib.hid (hb1.trans (hT.l.mono hb1.size))
      clear hb1
      have hbb := Lib.hid hb
      clear hb
      have hT := Lib.hid hT
      go_wp2_with fail
      refine Calm.calm_region (fun W => TW w1 a b a.size W ∧ Below w.heap.size w W) UE (UV w1 a b x y z o) [0, 1, 5, 6, 7] (by kernel_rfl) (by kernel_rfl) (by kernel_rfl) (fun _ _ _ _ h _ => h) (fun _ => Below.refl _ _) ⟨hT.out.alike rfl rfl rfl rfl, hbw.out.drew⟩ ?_ ?_
      · have hS' : ∀ {W W' : World}, (TW w1 a b a.size W ∧ Below w.heap.size w W) → Below W.heap.size W W' → (TW w1 a b a.size W' ∧ Below w.heap.size w W') := fun h hb => ⟨h.1.step h.1.size hb, h.2.trans (hb.mono h.2.size)⟩
        simp only [Calm.Steps, Calm.Step]
        refine ⟨?_, ?_, ?_, ?_, ?_, ?_, ?_, ?_, ?_, ?_, ?_, ?_, ?_, ?_, ?_, ?_, ?_, trivial⟩ <;> intro a' W hS hN hF <;> simp [Calm.needs, Calm.same, Calm.Left, UV, UC, Region.binds] at hN hF
        any_goals first
          | (refine Calm.step_val (Calm.wanted_none rfl) _ ?_ hS (Below.refl _ _) rfl; simp [go_sem, Act.eval, hN, hF, UC]; done)
          | (refine Calm.step_val (Calm.wanted_on rfl rfl rfl ?_) _ ?_ hS (Below.refl _ _) rfl
             · simp [hN]
             · simp [go_sem, Act.eval, hN, hF, UC])
          | skip
        · have hc := hS.1.both hbb.out
          exact Calm.step_val (Calm.wanted_on rfl rfl rfl (by simp [hN])) (.string (X a b)) (by simp [go_sem, Act.eval, hN, hc]) hS (Below.refl _ _) rfl
        · refine Calm.step_call (Calm.wanted_on rfl rfl rfl (by simp [hN])) (f := 11) (args := #[.string (X a b)]) (w1 := W) (by simp [go_sem, Act.eval, hN]) ((cX W).mono ?_)
          rintro e w' ⟨rfl, hb⟩
          exact ⟨_, rfl, hS' hS hb, hb, rfl⟩
        · refine Calm.step_call (Calm.wanted_on rfl rfl rfl (by simp [hN])) (f := 11) (args := #[.string a]) (w1 := W) (by simp [go_sem, Act.eval, hN]) ((cA W).mono ?_)
          rintro e w' ⟨rfl, hb⟩
          exact ⟨_, rfl, hS' hS hb, hb, rfl⟩
        · refine Calm.step_call (Calm.wanted_on rfl rfl rfl (by simp [hN])) (f := 11) (args := #[.string b]) (w1 := W) (by simp [go_sem, Act.eval, hN]) ((cB W).mono ?_)
          rintro e w' ⟨rfl, hb⟩
          exact ⟨_, rfl, hS' hS hb, hb, rfl⟩
        · have hc := hS.1.zero
          exact Calm.step_val (Calm.wanted_on rfl rfl rfl (by simp [hN])) (.string (Z a)) (by simp [go_sem, Act.eval, hN, hc]) hS (Below.refl _ _) rfl
        · refine Calm.step_call (Calm.wanted_on rfl rfl rfl (by simp [hN])) (f := 11) (args := #[.string (Z a)]) (w1 := W) (by simp [go_sem, Act.eval, hN]) ((cZ W).mono ?_)
          rintro e w' ⟨rfl, hb⟩
          exact ⟨_, rfl, hS' hS hb, hb, rfl⟩
        · exact Calm.step_val (Calm.wanted_on rfl rfl rfl (by simp [hN])) (.int .u32 x) (by simp [go_sem, Act.eval, hN, hx.out]) hS (Below.refl _ _) rfl
      · intro a' W hI
        have h0 : a'.tmps.getD 4 undef = .bool true := hI.left 16 rfl
        have hdf := hI.d
        have hb := hI.s.2
        clear hI
        go_wp2_with fail
        exact bodyPost_ret (results_tmp rfl _ _ _) hdf ⟨by rw [h0], hb⟩
set_option linter.unusedVariables false in
set_option maxHeartbeats 2000000 in
set_option maxRecDepth 100000 in
theorem turns_row (a : ByteArray) (ha : a.size ≤ 140737488351232) (b : ByteArray) (hb : b.size ≤ 140737488351232) (w : World) : Calls Try.prog 7 #[.string a, .string b] w fun e w' => e = .returned (.bool true) ∧ Below w.heap.size w w' := by
  by_cases c2 : a.size = b.size
  · by_cases c1 : 600 < a.size
    · have q1 : decide (600 < (a.size : Int)) = true := decide_eq_true (by omega)
      have q3 : decide (600 < a.size) = true := decide_eq_true (by omega)
      have q5 : ((a.size : Int) != (b.size : Int)) = false := by simp; omega
      clear ha hb c1 c2
      go_enter Try.func7, Try.ntmps7
      go_wp2_with fail
      refine (CrcW.works_any _).mono ?_
      rintro e w1 ⟨rfl, hb1⟩
      go_wp2_with fail
      go_ret
      exact ⟨rfl, hb1⟩
    · exact turns_main a b (by omega) c2.symm w
  · have q1 : ((a.size : Int) == (b.size : Int)) = false := by simp; omega
    have q2 : ((a.size : Int) != (b.size : Int)) = true := by simp; omega
    clear ha hb c2
    go_enter Try.func7, Try.ntmps7
    go_wp2_with fail
    refine (CrcW.works_any _).mono ?_
    rintro e w1 ⟨rfl, hb1⟩
    go_wp2_with fail
    go_ret
    exact ⟨rfl, hb1⟩
end Go.Proofs.Ytkejhcpaklefjaa.CrcU
