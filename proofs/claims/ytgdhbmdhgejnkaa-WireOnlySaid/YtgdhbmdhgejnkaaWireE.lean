/- The walks of the reference's functions over digests: GetSum, Bytes, Sum. -/
import Derived.Test.YtgdhbmdhgejnkaaWireD
import Derived.ChangeKeysEq
namespace Go.Proofs.Ytgdhbmdhgejnkaa.WireD
open Go.RowKit

/-! ### cenotaphref04.GetSum -/
def byteAt (s : ByteArray) (k : Nat) : Int := if h : k < s.size then (s[k].toNat : Int) else 0
theorem byteAt_at (s : ByteArray) (k : Nat) : ∀ h : k < s.size, (s[k].toNat : Int) = byteAt s k := fun h => by simp [byteAt, h]
def dTo (s : ByteArray) : Nat → Array Value
  | 0 => zcells
  | k + 1 => (dTo s k).setIfInBounds k (.int .u8 (byteAt s k))
theorem dTo_size (s : ByteArray) : ∀ k, (dTo s k).size = 32
  | 0 => zcells_size
  | k + 1 => by rw [dTo, Array.size_setIfInBounds, dTo_size s k]
theorem dTo_get (s : ByteArray) : ∀ k i, i < k → k ≤ 32 → (dTo s k)[i]? = some (.int .u8 (byteAt s i))
  | 0, i, h, _ => absurd h (by omega)
  | k + 1, i, h, hk => by
    rw [dTo, Array.getElem?_setIfInBounds, dTo_size]
    by_cases e : k = i
    · subst e; rw [if_pos rfl, if_pos (by omega)]
    · rw [if_neg e]; exact dTo_get s k i (by omega) (by omega)
theorem dTo_all (s : ByteArray) (h : 32 ≤ s.size) : dTo s 32 = dcells (s.extract 0 32) := by
  have hx : (s.extract 0 32).size = 32 := by simp; omega
  apply Array.ext_getElem?
  intro i
  by_cases hi : i < 32
  · rw [dTo_get s 32 i hi (by omega), dcells_get _ i (by omega), ← byteAt_at s i (by omega)]
    congr 3
    simp [ByteArray.getElem_extract]
  · rw [Array.getElem?_eq_none (by rw [dTo_size]; omega), Array.getElem?_eq_none (by rw [dcells_size, hx]; omega)]
theorem dTo_one (s : ByteArray) : ∀ k, (dTo s k).all (·.oneCell') = true
  | 0 => zcells_one
  | k + 1 => by
    rw [Array.all_eq_true]
    intro i hi
    have ih := Array.all_eq_true.1 (dTo_one s k)
    have hi' : i < (dTo s k).size := by simpa [dTo] using hi
    simp only [dTo, Array.getElem_setIfInBounds hi']
    split
    · rfl
    · exact ih i hi'
def RW (w : World) (s : ByteArray) (k : Nat) : World := (w.alloc (.cells zcells 28)).alloc (.cells (dTo s k) 28)
theorem RW_0 (w : World) (s : ByteArray) (k : Nat) : (RW w s k).heap[w.heap.size]? = some (.cells zcells 28 (0, 0)) := heap_alloc2_old w _ _
theorem RW_1 (w : World) (s : ByteArray) (k : Nat) : (RW w s k).heap[w.heap.size + 1]? = some (.cells (dTo s k) 28 (0, 0)) := heap_alloc2_new w _ _
theorem RW_below (w : World) (s : ByteArray) (k : Nat) : Below w.heap.size w (RW w s k) := ((Below.refl _ _).alloc (Nat.le_refl _) _).alloc (by simp) _
theorem RW_cell (w : World) (s : ByteArray) (k : Nat) (hk : k < 32) : ∃ v, (RW w s k).cell? ⟨w.heap.size + 1, k, none⟩ = some v := by
  rw [cell_of_row _ _ _ _ _ _ (RW_1 w s k), Array.getElem?_eq_getElem (by rw [dTo_size]; exact hk)]
  exact ⟨_, rfl⟩
theorem RW_frozen (w : World) (s : ByteArray) (k : Nat) : (RW w s k).frozen? ⟨w.heap.size + 1, k, none⟩ = false := frozen_of_row _ _ _ _ _ (RW_1 w s k)
theorem RW_set (w : World) (s : ByteArray) (k : Nat) : (RW w s k).setCell ⟨w.heap.size + 1, k, none⟩ (.int .u8 (byteAt s k)) = RW w s (k + 1) := by
  rw [setCell_eq_setRow _ _ _ _ _ _ _ (RW_1 w s k)]
  have e : w.heap.size + 1 = (w.alloc (.cells zcells 28)).heap.size := by simp
  unfold RW
  rw [e]
  exact World.setRow_alloc_new _ _ _ _
structure HS (w : World) (D : Array Value) (W : World) : Prop where
  b : Below w.heap.size w W
  g : W.heap[w.heap.size + 1]? = some (.cells D 28 (0, 0))
  d : ∃ d, W.heap[w.heap.size]? = some (.cells d 28 (0, 0)) ∧ d.size = 32
def HV (w : World) (D : Array Value) (s : ByteArray) : Nat → Value → World → Prop
  | 0, v, _ => v = .agg D
  | 1, v, _ => v = .string s
  | 2, v, _ => v = .string (s.extract 32 s.size)
  | 3, _, W => W.heap[w.heap.size]? = some (.cells D 28 (0, 0))
  | 4, v, _ => v = .string (s.extract 32 s.size)
  | _, v, _ => v = .bool true
def HE (w : World) (D : Array Value) (W W' : World) : Prop := W.heap[w.heap.size]? = some (.cells D 28 (0, 0)) → W'.heap[w.heap.size]? = some (.cells D 28 (0, 0))
theorem HV_keep (w : World) (D : Array Value) (s : ByteArray) : ∀ j u x y, HV w D s j u x → HE w D x y → HV w D s j u y := by
  intro j u x y h1 h2
  unfold HV at h1 ⊢
  split at h1 <;> first | exact h1 | exact h2 h1
attribute [irreducible] dTo RW byteAt
set_option maxHeartbeats 800000 in
set_option maxRecDepth 10000 in
theorem refgetsum_yes (s : ByteArray) (h : 32 ≤ s.size) (w : World) : Calls Try.prog 19 #[.string s] w fun e w' => e = .returned (.tuple #[.agg (dcells (s.extract 0 32)), .string (s.extract 32 s.size), .bool true]) ∧ Below w.heap.size w w' := by
  have hz := zeroD
  have hlt : ((s.size : Int) < 32) = False := by simp; omega
  have hdlt : decide ((s.size : Int) < 32) = false := by simp; omega
  go_enter Try.func19, Try.ntmps19
  go_wp2_with fail
  clear hz hdlt
  go_loopw [6] (fun i wr => ∃ k : Nat, k ≤ 32 ∧ i = .int .i64 k ∧ wr = RW w s k) (fun i _ => 32 - (intOf i).toNat)
  case atStart => exact ⟨0, by omega, rfl, by unfold RW dTo; rfl⟩
  case round =>
    obtain ⟨k, hk, rfl, rfl⟩ := hrel
    by_cases hlk : k < 32
    · have hbt := byteAt_at s k (by omega)
      have hks : k < s.size := by omega
      obtain ⟨v, hv⟩ := RW_cell w s k hlk
      have hf := RW_frozen w s k
      have hst := RW_set w s k
      go_wp2_with fail
      go_roundw
      case rel => exact ⟨k + 1, by omega, by go_num, rfl⟩
      case measure => simp [intOf]; omega
    · obtain rfl : k = 32 := by omega
      go_wp2_with fail
      have hD : (dTo s 32).size = 32 := dTo_size s 32
      have h1 := dTo_one s 32
      refine Calm.calm_region (HS w (dTo s 32)) (HE w (dTo s 32)) (HV w (dTo s 32) s) [0, 2, 5] (by kernel_rfl) (by kernel_rfl) (by kernel_rfl) (HV_keep w _ s) (fun _ h => h) ⟨(RW_below w s 32).drew, RW_1 w s 32, _, RW_0 w s 32, zcells_size⟩ ?_ ?_
      · simp only [Calm.Steps, Calm.Step]
        refine ⟨?_, ?_, ?_, ?_, ?_, ?_, trivial⟩ <;> intro a W hS hN hF <;> simp [Calm.needs, Calm.same, Calm.Left, HV, Region.binds] at hN hF
        · have hl := run_loadVar_row (P := Try.prog) W (w.heap.size + 1) 28 28 (dTo s 32) (0, 0) _ hS.g Try.underlying28 rfl (by rw [sizeD, hD])
          exact Calm.step_val (Calm.wanted_none rfl) (.agg (dTo s 32)) (Calm.run_op_load rfl (Calm.eval_tmp hF.2.2) (by simp only [Instr.loadAt, Instr.sureAddr, Sem.run_bind, Sem.run_pure, Result.andThen_ok, hl])) hS (fun h => h) rfl
        · exact Calm.step_val (Calm.wanted_none rfl) (.string s) (by simp [go_sem, Act.eval, hF]) hS (fun h => h) rfl
        · exact Calm.step_val (Calm.wanted_none rfl) (.string (s.extract 32 s.size)) (by simp [go_sem, Act.eval, hN, hlt]) hS (fun h => h) rfl
        · obtain ⟨d, hd, hdz⟩ := hS.d
          have hs := run_storeVar_row (P := Try.prog) W w.heap.size 28 28 d (dTo s 32) hd (by rw [sizeD, hD]) (by rw [hdz, hD]) h1
          exact Calm.step_skip (Calm.wanted_none rfl) (w' := W.setRow w.heap.size (dTo s 32)) (Calm.run_op_store rfl (Calm.eval_tmp hF.2.1) (Calm.eval_tmp hN) (by simp only [Instr.storeAt, Instr.sureAddr, Sem.run_bind, Sem.run_pure, Result.andThen, hs]))
            ⟨below_setRow hS.b (Nat.le_refl _) _, by rw [setRow_other _ _ _ _ (by omega)]; exact hS.g, _, setRow_heap _ _ _ _ _ _ hd, hD⟩ (fun _ => setRow_heap _ _ _ _ _ _ hd) (setRow_heap _ _ _ _ _ _ hd)
        · exact Calm.step_val (Calm.wanted_none rfl) (.string (s.extract 32 s.size)) (by simp [go_sem, Act.eval, hN]) hS (fun h => h) rfl
        · exact Calm.step_val (Calm.wanted_none rfl) (.bool true) (by simp [go_sem, Act.eval]) hS (fun h => h) rfl
      · intro a W hI
        obtain ⟨_, hd⟩ := hI.left 3 rfl
        have h5 : a.tmps.getD 3 undef = .string (s.extract 32 s.size) := hI.left 4 rfl
        have h6 : a.tmps.getD 4 undef = .bool true := hI.left 5 rfl
        have h0 : a.tmps.getD 2 undef = .pointer (some ⟨w.heap.size, 0, none⟩) := hI.f 2 (by kernel_rfl)
        have hl := run_loadVar_row (P := Try.prog) W w.heap.size 28 28 (dTo s 32) (0, 0) _ hd Try.underlying28 rfl (by rw [sizeD, hD])
        have hdf := hI.d
        have hb := hI.s.b
        clear h1 hD hI hlt
        go_wp2_with fail
        rw [dTo_all s h] at hl
        refine bodyPost_ret (v := .tuple #[.agg (dcells (s.extract 0 32)), .string (s.extract 32 s.size), .bool true]) ?_ hdf ⟨rfl, hb⟩
        simp at h0 h5 h6
        simp [results, Try.results19, asAddr, h0, h5, h6, hl]
theorem RW_self (w : World) (s : ByteArray) : RW w s 0 = (w.alloc (.cells zcells 28)).alloc (.cells zcells 28) := by unfold RW dTo; rfl
set_option maxHeartbeats 400000 in
set_option maxRecDepth 10000 in
theorem refgetsum_no (s : ByteArray) (h : s.size < 32) (w : World) : Calls Try.prog 19 #[.string s] w fun e w' => e = .returned (.tuple #[.agg (dcells zeros32), .string ⟨#[]⟩, .bool false]) ∧ Below w.heap.size w w' := by
  have hz := zeroD
  have hdlt : decide ((s.size : Int) < 32) = true := by simp; omega
  have R1 := RW_1 w s 0
  have R0 := RW_0 w s 0
  have hb := RW_below w s 0
  rw [RW_self] at R1 R0 hb
  rw [show dTo s 0 = zcells by unfold dTo; rfl] at R1
  have R1 := Lib.hid R1
  have R0 := Lib.hid R0
  go_enter Try.func19, Try.ntmps19
  go_wp2_with (first
    | (refine wpList_load_row rfl 28 (.tmp 5) rfl (w.heap.size + 1) rfl 28 zcells (0, 0) _ R1.out Try.underlying28 rfl (by rw [sizeD, zcells_size]) ?_)
    | (refine wpList_store_row rfl 28 (.tmp 2) (.tmp 10) rfl w.heap.size zcells rfl rfl 28 zcells R0.out (by rw [sizeD, zcells_size]) rfl zcells_one ?_; rw [setRow_self _ _ _ _ _ R0.out]))
  have hl := run_loadVar_row (P := Try.prog) _ w.heap.size 28 28 zcells (0, 0) _ R0.out Try.underlying28 rfl (by rw [sizeD, zcells_size])
  refine bodyPost_ret (v := .tuple #[.agg (dcells zeros32), .string ⟨#[]⟩, .bool false]) ?_ rfl ⟨rfl, hb⟩
  rw [← zcells_eq]
  simp [results, Try.results19, asAddr, hl]

/-! ### A digest is equal to itself -/
theorem infoE : ∃ i, Try.prog.info? 5 = some i ∧ Try.prog.cellsOf 5 = 1 := by
  have h : (Try.prog.info? 5).isSome = true := by kernel_rfl
  obtain ⟨i, hi⟩ := Option.isSome_iff_exists.1 h
  exact ⟨i, hi, by kernel_rfl⟩
theorem items_same (s : ByteArray) (d : Nat) (w : World) : ∀ is : List Nat, (∀ i ∈ is, i < s.size) → (Op.eqItems (d + 1) 5 1 (dcells s) (dcells s) is).run Try.prog w = .ok true w
  | [], _ => by simp [Op.eqItems]
  | i :: is, h => by
    have hi := h i List.mem_cons_self
    have hp := run_part_plain (P := Try.prog) w (e := 5) (by kernel_rfl) (dcells_get s i hi)
    have hq := run_equalIn_int (P := Try.prog) w d 5 .u8 .u8 (s[i].toNat : Int) (s[i].toNat : Int) Try.underlying5
    simp only [Op.eqItems, Sem.run_bind, Nat.mul_one, hp, hq, Result.andThen_ok, BEq.rfl, Bool.not_true, Bool.false_eq_true, if_false]
    exact items_same s d w is fun j hj => h j (List.mem_cons_of_mem _ hj)
theorem eq_same (s : ByteArray) (h : s.size = 32) (w : World) : (binOp .eql 28 (.agg (dcells s)) (.agg (dcells s))).run Try.prog w = .ok (.bool true) w := by
  obtain ⟨i, hi, hc⟩ := infoE
  rw [run_eql_struct, run_equalIn_array w 9999 (dcells s) (dcells s) Try.underlying28 hi, hc, items_same s 9998 w _ (fun j hj => by rw [h]; exact List.mem_range.1 hj)]
  rfl

theorem guard_same (x y : Operand) (s t : ByteArray) (w : World) : (eqGuard .eql 28 x y (.agg (dcells s)) (.agg (dcells t))).run Try.prog w = .ok () w := run_eqGuard_agg (P := Try.prog) w .eql 28 x y _ _ (by kernel_rfl)

/-! ### cenotaphref02.Bytes, cenotaphref04.Sum -/
theorem infoU8 : (Try.prog.info? 5).map (fun i => (i.zero, i.size, i.bytes)) = some (some (.int .u8 0), 1, 1) := by kernel_rfl
def dlist (s : ByteArray) (k : Nat) : List Value := (dcells s).toList.take k
theorem dlist_succ (s : ByteArray) (k : Nat) (h : k < s.size) : dlist s k ++ [.int .u8 (byteAt s k)] = dlist s (k + 1) := by
  have h2 : k < (dcells s).toList.length := by rw [Array.length_toList, dcells_size]; exact h
  unfold dlist
  rw [List.take_succ_eq_append_getElem h2]
  congr 2
  have := dcells_get s k h
  rw [← byteAt_at s k h]
  rw [Array.getElem?_eq_getElem (by rw [dcells_size]; exact h)] at this
  rw [Array.getElem_toList]
  exact (Option.some.inj this).symm
theorem dlist_str (W : World) (base : Nat) (v : Value) (s : ByteArray) (n : Nat) (hn : s.size = n) (hp : 0 < n) (h : W.ownsRow base 5 1 v n (dlist s n)) :
    (convert 39 9 v).run Try.prog W = .ok (.string s) W := by
  rcases h.2 with ⟨_, h0⟩ | ⟨g, cap, cur, rfl, _, hg, hc, _, hcur, ht⟩
  · omega
  · have hr := run_convert_bytes_arg (P := Try.prog) W 39 5 Try.underlying39 Try.underlying5 g 0 n cap (dnums s) (by rw [dnums_length, hn]) (fun i hi => by
      rw [cell_of_row _ _ _ _ _ _ hg, Nat.zero_add, dnums_get s i (by omega)]
      have h1 : (cur.toList.take (n * 1))[i]? = (dlist s n)[i]? := by rw [ht]
      rw [List.getElem?_take_of_lt (by omega)] at h1
      unfold dlist at h1
      rw [List.getElem?_take_of_lt hi, Array.getElem?_toList, Array.getElem?_toList, dcells_get s i (by omega)] at h1
      exact h1) 9 Try.underlying9
    rwa [dnums_str] at hr
theorem own_base {w : World} {base : Nat} {e : TypeId} {size n : Nat} {v : Value} {xs : List Value} (h : w.ownsRow base e size v n xs) (k : Nat) (hk : v.ownBlock = some k) : base ≤ k := by
  rcases h.2 with ⟨rfl, _⟩ | ⟨g, cap, cur, rfl, hb, _⟩
  · simp [Value.ownBlock] at hk
  · have : g = k := by simpa [Value.ownBlock] using hk
    omega
attribute [irreducible] dlist
set_option maxHeartbeats 800000 in
set_option maxRecDepth 10000 in
theorem bytes_any (s : ByteArray) (h : s.size = 32) (w : World) : Calls Try.prog 35 #[.agg (dcells s)] w fun e w' => e = .returned (.string s) ∧ Below w.heap.size w w' := by
  obtain ⟨i0, hi, hz0, hz1, hz2⟩ := info_parts infoU8
  go_enter Try.func35, Try.ntmps35
  go_wp2_with fail
  go_loopw [3, 4] (fun v i wr => ∃ k : Nat, k ≤ 32 ∧ i = .int .i64 k ∧ wr.ownsRow (w.heap.size + 1) 5 1 v k (dlist s k) ∧ Below w.heap.size w wr ∧ Hid (wr.heap[w.heap.size]? = some (.cells (dcells s) 28 (0, 0)))) (fun _ i _ => 32 - (intOf i).toNat)
  case atStart => exact ⟨0, by omega, rfl, ⟨by unfold dlist; rfl, .inl ⟨rfl, rfl⟩⟩, (Below.refl _ _).alloc (Nat.le_refl _) _, heap_alloc_new w _⟩
  case round =>
    obtain ⟨k, hk, rfl, hown, hb, hg⟩ := hrel
    by_cases hlt : k < 32
    · have hcell : wr.cell? ⟨w.heap.size, k, none⟩ = some (.int .u8 (byteAt s k)) := by
        rw [cell_of_row _ _ _ _ _ _ hg.out, dcells_get s k (by omega), byteAt_at s k (by omega)]
      have hwz : w.heap.size + 1 ≤ wr.heap.size := (Array.getElem?_eq_some_iff.1 hg.out).1
      go_wp2_with (at_builtin; refine wpList_append_own _ rfl _ _ 39 rfl (w.heap.size + 1) 5 i0 (.int .u8 0) 1 1 Try.underlying39 hi hz0 hz1 hz2 rfl (by decide) _ _ _ rfl (hown.alloc _) ⟨wr.heap.size, 0, none⟩ 1 1 [.int .u8 (byteAt s k)] rfl rfl ?c1 ?c2 ?c3 ?c4 ?c5 ?_)
      case c1 =>
        intro j u hj
        have hj0 : j = 0 := by
          have := (List.getElem?_eq_some_iff.1 hj).1
          simp at this
          exact this
        subst hj0
        simp at hj
        subst hj
        simp [Addr.add]
      case c2 =>
        intro u hu
        simp only [List.mem_singleton] at hu
        subst hu
        rfl
      case c3 => unfold maxLen; omega
      case c4 => omega
      case c5 => simp; omega
      intro v' w1 hown1 hgrow _
      have hg1 : w1.heap[w.heap.size]? = some (.cells (dcells s) 28 (0, 0)) := by
        rw [hgrow.block w.heap.size (by simp; omega) (fun e => by have := own_base hown _ e.symm; omega), heap_alloc_old _ _ (by omega)]
        exact hg.out
      have hb1 : Below w.heap.size w w1 := (hb.alloc hb.size _).grown hgrow (by simp; omega) (fun g e => by have := own_base hown g e; omega)
      rw [dlist_succ s k (by omega)] at hown1
      clear hcell hgrow hg
      have hg2 := Lib.hid hg1
      clear hg1
      go_wp2_with fail
      go_roundw
      case rel => exact ⟨k + 1, by omega, by go_num, hown1, hb1, hg2⟩
      case measure => simp [intOf]; omega
    · obtain rfl : k = 32 := by omega
      have hc := dlist_str wr _ u3 s 32 h (by omega) hown
      go_wp2_with fail
      go_ret
      exact ⟨rfl, hb⟩
set_option maxHeartbeats 400000 in
set_option maxRecDepth 10000 in
theorem refsum_any (s : ByteArray) (h : s.size = 32) (w : World) : Calls Try.prog 25 #[.agg (dcells s)] w fun e w' => e = .returned (.string s) ∧ Below w.heap.size w w' := by
  go_enter Try.func25, Try.ntmps25
  go_wp2_with (first
    | (refine wpList_load_row rfl 28 (.tmp 1) rfl w.heap.size rfl 28 (dcells s) (0, 0) _ (heap_alloc_new w _) Try.underlying28 rfl (by rw [sizeD, dcells_size, h]) ?_)
    | (go_at_call 35; refine (bytes_any s h _).mono ?_; rintro e w1 ⟨rfl, hb⟩))
  go_ret
  exact ⟨rfl, ((Below.refl _ _).alloc (Nat.le_refl _) _).trans (hb.mono (by simp))⟩
end Go.Proofs.Ytgdhbmdhgejnkaa.WireD
