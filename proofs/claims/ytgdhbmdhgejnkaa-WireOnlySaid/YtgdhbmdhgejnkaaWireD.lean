/- The walks of the functions over digests: wire.Sum, wire.GetSum and what they call; the reference's likewise. -/
import Derived.Test.YtgdhbmdhgejnkaaProg
import Derived.WalkKit
import Derived.KernelRfl
import Derived.Outline
import Derived.Lib.Hide
import Derived.Lib.ConvBytes
import Derived.Laws.BytesArg
import Derived.Deep.WholeRow
import Derived.Deep.MidRow
import Derived.Laws.CopyOwn
import Derived.Laws.CopyRow
import Derived.RegionTactic
import Derived.Test.YtgdhbmdhgejnkaaCalm
namespace Go.Proofs.Ytgdhbmdhgejnkaa.WireD
open Go.RowKit

/-- A digest's cells: of its 32 bytes. -/
def dcells (s : ByteArray) : Array Value := s.data.map fun b => .int .u8 (b.toNat : Int)
theorem dcells_size (s : ByteArray) : (dcells s).size = s.size := by unfold dcells; rw [Array.size_map]; rfl
theorem dcells_get (s : ByteArray) (i : Nat) (h : i < s.size) : (dcells s)[i]? = some (.int .u8 (s[i].toNat : Int)) := by
  have h' : i < s.data.size := h
  simp [dcells, Array.getElem?_eq_getElem h']
  rfl
theorem dcells_one (s : ByteArray) : (dcells s).all (·.oneCell') = true := by
  rw [Array.all_eq_true]
  intro i hi
  simp [dcells, Value.oneCell']
def dnums (s : ByteArray) : List Int := s.data.toList.map fun b => (b.toNat : Int)
theorem dnums_length (s : ByteArray) : (dnums s).length = s.size := by unfold dnums; rw [List.length_map, Array.length_toList]; rfl
theorem dnums_str (s : ByteArray) : strOfNums (dnums s) = s := by
  apply ByteArray.ext
  apply Array.ext'
  rw [strOfNums_data, dnums, List.map_map]
  have : ((fun n : Int => UInt8.ofNat n.toNat) ∘ fun b : UInt8 => (b.toNat : Int)) = id := by
    funext b
    simp
  rw [this, List.map_id]
theorem dnums_get (s : ByteArray) (i : Nat) (h : i < s.size) : (dnums s).getD i 0 = (s[i].toNat : Int) := by
  have h' : i < s.data.size := h
  have h2 : i < s.data.toList.length := by simpa using h'
  unfold dnums
  rw [List.getD_eq_getElem?_getD, List.getElem?_map, List.getElem?_eq_getElem h2]
  rfl
/-- The bytes of a block of a digest's cells, as a string. -/
theorem conv_cells (W : World) (g : Nat) (s : ByteArray) (hg : W.heap[g]? = some (.cells (dcells s) 28 (0, 0))) (n : Nat) (hn : s.size = n) :
    (convert 39 9 (.slice (some ⟨g, 0, none⟩) n n)).run Try.prog W = .ok (.string s) W := by
  have h := run_convert_bytes_arg (P := Try.prog) W 39 5 Try.underlying39 Try.underlying5 g 0 n n (dnums s) (by rw [dnums_length, hn]) (fun i hi => by
    rw [cell_of_row _ _ _ _ _ _ hg, Nat.zero_add, dcells_get s i (by omega), dnums_get s i (by omega)]) 9 Try.underlying9
  rwa [dnums_str] at h
attribute [irreducible] dcells dnums
set_option maxHeartbeats 400000 in
set_option maxRecDepth 10000 in
theorem sum_any (s : ByteArray) (h : s.size = 32) (w : World) : Calls Try.prog 24 #[.agg (dcells s)] w fun e w' => e = .returned (.string s) ∧ Below w.heap.size w w' := by
  have hc := conv_cells (w.alloc (.cells (dcells s) 28)) w.heap.size s (heap_alloc_new w _) 32 h
  go_enter Try.func24, Try.ntmps24
  go_wp2_with fail
  go_ret
  exact ⟨rfl, (Below.refl _ _).alloc (Nat.le_refl _) _⟩

/-! ### (got[api.Digest]).parts -/
def zcells : Array Value := Array.replicate 32 (.int .u8 0)
def zeros32 : ByteArray := ⟨Array.replicate 32 0⟩
theorem zcells_eq : zcells = dcells zeros32 := by unfold zcells dcells zeros32; rw [Array.map_replicate]; rfl
theorem zeros32_size : zeros32.size = 32 := by unfold zeros32 ByteArray.size; exact Array.size_replicate
theorem zeroD (w : World) : Sem.run Try.prog (zeroValue 28) w = .ok (.agg zcells) w := by kernel_rfl
theorem sizeD : (Try.prog.info? 28).map (·.size) = some 32 := by kernel_rfl
def gotCells (s rest : ByteArray) (ok : Bool) : Array Value := dcells s ++ #[.string rest, .bool ok]
theorem got_size (s rest : ByteArray) (ok : Bool) (h : s.size = 32) : (gotCells s rest ok).size = 34 := by
  simp [gotCells, dcells_size, h]
theorem got_rest (s rest : ByteArray) (ok : Bool) (h : s.size = 32) : (gotCells s rest ok)[32]? = some (.string rest) := by
  have := dcells_size s
  simp [gotCells, this, h]
theorem got_ok (s rest : ByteArray) (ok : Bool) (h : s.size = 32) : (gotCells s rest ok)[33]? = some (.bool ok) := by
  have := dcells_size s
  simp [gotCells, this, h]
theorem got_d (s rest : ByteArray) (ok : Bool) (j : Nat) (v : Value) (hj : (dcells s).toList[j]? = some v) : (gotCells s rest ok)[j]? = some v := by
  rw [Array.getElem?_toList] at hj
  have hlt : j < (dcells s).size := (Array.getElem?_eq_some_iff.1 hj).1
  unfold gotCells
  rw [Array.getElem?_append, if_pos hlt]
  exact hj
attribute [irreducible] gotCells zcells
/-- The worlds of parts: the box of the parameter, the result's own block. -/
def PW (w : World) (s rest : ByteArray) (ok : Bool) (d : Array Value) : World := (w.alloc (.cells (gotCells s rest ok) 55)).alloc (.cells d 28)
theorem PW_got (w : World) (s rest : ByteArray) (ok : Bool) (d : Array Value) : (PW w s rest ok d).heap[w.heap.size]? = some (.cells (gotCells s rest ok) 55 (0, 0)) := heap_alloc2_old w _ _
theorem PW_d (w : World) (s rest : ByteArray) (ok : Bool) (d : Array Value) : (PW w s rest ok d).heap[w.heap.size + 1]? = some (.cells d 28 (0, 0)) := heap_alloc2_new w _ _
theorem PW_set (w : World) (s rest : ByteArray) (ok : Bool) (d d' : Array Value) : (PW w s rest ok d).setRow (w.heap.size + 1) d' = PW w s rest ok d' := by
  have e : w.heap.size + 1 = (w.alloc (.cells (gotCells s rest ok) 55)).heap.size := by simp
  unfold PW
  rw [e]
  exact World.setRow_alloc_new _ _ _ _
/-- The worlds on the way through the last statement. -/
structure PS (w : World) (s rest : ByteArray) (W : World) : Prop where
  b : Below w.heap.size w W
  g : W.heap[w.heap.size]? = some (.cells (gotCells s rest true) 55 (0, 0))
  d : ∃ d, W.heap[w.heap.size + 1]? = some (.cells d 28 (0, 0)) ∧ d.size = 32
def PV (w : World) (s rest : ByteArray) : Nat → Value → World → Prop
  | 0, v, _ => v = .pointer (some ⟨w.heap.size, 0, none⟩)
  | 1, v, _ => v = .agg (dcells s)
  | 2, v, _ => v = .pointer (some ⟨w.heap.size, 32, none⟩)
  | 3, v, _ => v = .string rest
  | 4, _, W => W.heap[w.heap.size + 1]? = some (.cells (dcells s) 28 (0, 0))
  | 5, v, _ => v = .string rest
  | _, v, _ => v = .bool true
def PE (w : World) (s : ByteArray) (W W' : World) : Prop := W.heap[w.heap.size + 1]? = some (.cells (dcells s) 28 (0, 0)) → W'.heap[w.heap.size + 1]? = some (.cells (dcells s) 28 (0, 0))
theorem PV_keep (w : World) (s rest : ByteArray) : ∀ j u x y, PV w s rest j u x → PE w s x y → PV w s rest j u y := by
  intro j u x y h1 h2
  unfold PV at h1 ⊢
  split at h1 <;> first | exact h1 | exact h2 h1
set_option maxHeartbeats 400000 in
set_option maxRecDepth 10000 in
theorem parts_yes (s rest : ByteArray) (h : s.size = 32) (w : World) : Calls Try.prog 32 #[.agg (gotCells s rest true)] w fun e w' => e = .returned (.tuple #[.agg (dcells s), .string rest, .bool true]) ∧ Below w.heap.size w w' := by
  have hz := zeroD
  have h2 := got_rest s rest true h
  have h3 := got_ok s rest true h
  go_enter Try.func32, Try.ntmps32
  go_wp2_with fail
  refine Calm.calm_region (PS w s rest) (PE w s) (PV w s rest) [1, 2] (by kernel_rfl) (by kernel_rfl) (by kernel_rfl) (PV_keep w s rest) (fun _ h => h) ⟨((((Below.refl _ _).alloc (Nat.le_refl _) _).alloc (by simp) _).drew), heap_alloc2_old w _ _, _, heap_alloc2_new w _ _, by unfold zcells; exact Array.size_replicate⟩ ?_ ?_
  · simp only [Calm.Steps, Calm.Step]
    refine ⟨?_, ?_, ?_, ?_, ?_, ?_, ?_, trivial⟩ <;> intro a W hS hN hF <;> simp [Calm.needs, Calm.same, Calm.Left, PV, Region.binds] at hN hF
    · exact Calm.step_val (Calm.wanted_none rfl) (.pointer (some ⟨w.heap.size, 0, none⟩)) (by simp [go_sem, Act.eval, hF]) hS (fun h => h) rfl
    · have hl := run_loadAt_mid (P := Try.prog) W w.heap.size 0 28 (dcells s).toList _ (fun j v hj => by rw [Nat.zero_add, cell_of_row _ _ _ _ _ _ hS.g]; exact got_d s rest true j v hj) Try.underlying28 rfl (by rw [sizeD, Array.length_toList, dcells_size, h])
      exact Calm.step_val (Calm.wanted_none rfl) (.agg (dcells s)) (Calm.run_op_load rfl (Calm.eval_tmp hN) hl) hS (fun h => h) rfl
    · exact Calm.step_val (Calm.wanted_none rfl) (.pointer (some ⟨w.heap.size, 32, none⟩)) (by simp [go_sem, Act.eval, hF]) hS (fun h => h) rfl
    · have hc : W.cell? ⟨w.heap.size, 32, none⟩ = some (.string rest) := by rw [cell_of_row _ _ _ _ _ _ hS.g]; exact h2
      exact Calm.step_val (Calm.wanted_none rfl) (.string rest) (by simp [go_sem, Act.eval, hN, hc]) hS (fun h => h) rfl
    · obtain ⟨d, hd, hdz⟩ := hS.d
      have hs := run_storeVar_row (P := Try.prog) W (w.heap.size + 1) 28 28 d (dcells s) hd (by rw [sizeD, dcells_size, h]) (by rw [hdz, dcells_size, h]) (dcells_one s)
      refine Calm.step_skip (Calm.wanted_none rfl) (w' := W.setRow (w.heap.size + 1) (dcells s)) (Calm.run_op_store rfl (Calm.eval_tmp hF.2) (Calm.eval_tmp hN.1) (by simp only [Instr.storeAt, Instr.sureAddr, Sem.run_bind, Sem.run_pure, Result.andThen, hs])) ⟨?_, ?_, _, setRow_heap _ _ _ _ _ _ hd, by rw [dcells_size, h]⟩ (fun _ => setRow_heap _ _ _ _ _ _ hd) (setRow_heap _ _ _ _ _ _ hd)
      · exact below_setRow hS.b (by omega) _
      · rw [setRow_other _ _ _ _ (by omega)]; exact hS.g
    · exact Calm.step_val (Calm.wanted_none rfl) (.string rest) (by simp [go_sem, Act.eval, hN]) hS (fun h => h) rfl
    · exact Calm.step_val (Calm.wanted_none rfl) (.bool true) (by simp [go_sem, Act.eval]) hS (fun h => h) rfl
  · intro a W hI
    obtain ⟨_, hd⟩ := hI.left 4 rfl
    have h5 : a.tmps.getD 3 undef = .string rest := hI.left 5 rfl
    have h6 : a.tmps.getD 4 undef = .bool true := hI.left 6 rfl
    have h0 : a.tmps.getD 2 undef = .pointer (some ⟨w.heap.size + 1, 0, none⟩) := hI.f 2 (by kernel_rfl)
    have hl := run_loadVar_row (P := Try.prog) W (w.heap.size + 1) 28 28 (dcells s) (0, 0) _ hd Try.underlying28 rfl (by rw [sizeD, dcells_size, h])
    have hdf := hI.d
    have hb := hI.s.b
    clear hz h2 h3 hI
    go_wp2_with fail
    refine bodyPost_ret (v := .tuple #[.agg (dcells s), .string rest, .bool true]) ?_ hdf ⟨rfl, hb⟩
    simp at h0 h5 h6
    simp [results, Try.results32, asAddr, h0, h5, h6, hl]
/-- Three new blocks. -/
abbrev W3 (w : World) (A B C : Obj) : World := ((w.alloc A).alloc B).alloc C
theorem W3_2 (w : World) (A B C : Obj) : (W3 w A B C).heap[w.heap.size + 1 + 1]? = some C := by
  have h := heap_alloc_new ((w.alloc A).alloc B) C
  have e : ((w.alloc A).alloc B).heap.size = w.heap.size + 1 + 1 := by simp
  rwa [e] at h
theorem W3_1 (w : World) (A B C : Obj) : (W3 w A B C).heap[w.heap.size + 1]? = some B := by
  have h := heap_alloc2_new w A B
  unfold W3
  rw [heap_alloc_old _ _ (by simp)]
  exact h
theorem W3_0 (w : World) (A B C : Obj) : (W3 w A B C).heap[w.heap.size]? = some A := by
  unfold W3
  rw [heap_alloc_old _ _ (by simp; omega)]
  exact heap_alloc2_old w A B
theorem W3_below (w : World) (A B C : Obj) : Below w.heap.size w (W3 w A B C) := (((Below.refl _ _).alloc (Nat.le_refl _) _).alloc (by simp) _).alloc (by simp; omega) _
theorem zcells_size : zcells.size = 32 := by rw [zcells_eq, dcells_size, zeros32_size]
theorem zcells_one : zcells.all (·.oneCell') = true := by rw [zcells_eq]; exact dcells_one _
set_option maxHeartbeats 400000 in
set_option maxRecDepth 10000 in
theorem parts_no (s rest : ByteArray) (h : s.size = 32) (w : World) : Calls Try.prog 32 #[.agg (gotCells s rest false)] w fun e w' => e = .returned (.tuple #[.agg (dcells zeros32), .string ⟨#[]⟩, .bool false]) ∧ Below w.heap.size w w' := by
  have hz := zeroD
  have h3 := got_ok s rest false h
  have R2 := Lib.hid (W3_2 w (.cells (gotCells s rest false) 55) (.cells zcells 28) (.cells zcells 28))
  have R1 := Lib.hid (W3_1 w (.cells (gotCells s rest false) 55) (.cells zcells 28) (.cells zcells 28))
  have Rb := W3_below w (.cells (gotCells s rest false) 55) (.cells zcells 28) (.cells zcells 28)
  go_enter Try.func32, Try.ntmps32
  go_wp2_with (first
    | (refine wpList_load_row rfl 28 (.tmp 5) rfl (w.heap.size + 1 + 1) rfl 28 zcells (0, 0) _ R2.out Try.underlying28 rfl (by rw [sizeD, zcells_size]) ?_)
    | (refine wpList_store_row rfl 28 (.tmp 2) (.tmp 9) rfl (w.heap.size + 1) zcells rfl rfl 28 zcells R1.out (by rw [sizeD, zcells_size]) rfl zcells_one ?_; rw [setRow_self _ _ _ _ _ R1.out]))

  have hl := run_loadVar_row (P := Try.prog) _ (w.heap.size + 1) 28 28 zcells (0, 0) _ R1.out Try.underlying28 rfl (by rw [sizeD, zcells_size])
  unfold W3 at hl Rb
  refine bodyPost_ret (v := .tuple #[.agg (dcells zeros32), .string ⟨#[]⟩, .bool false]) ?_ rfl ⟨rfl, Rb⟩
  rw [← zcells_eq]
  simp [results, Try.results32, asAddr, hl]

/-! ### wire.GetSum -/
theorem build_none : (#[.int .u8 0, .int .u8 0, .int .u8 0, .int .u8 0, .int .u8 0, .int .u8 0, .int .u8 0, .int .u8 0, .int .u8 0, .int .u8 0, .int .u8 0, .int .u8 0, .int .u8 0, .int .u8 0, .int .u8 0, .int .u8 0, .int .u8 0, .int .u8 0, .int .u8 0, .int .u8 0, .int .u8 0, .int .u8 0, .int .u8 0, .int .u8 0, .int .u8 0, .int .u8 0, .int .u8 0, .int .u8 0, .int .u8 0, .int .u8 0, .int .u8 0, .int .u8 0, .string ⟨#[]⟩, .bool false] : Array Value) = gotCells zeros32 ⟨#[]⟩ false := by
  unfold gotCells
  rw [← zcells_eq]
  unfold zcells
  kernel_rfl
theorem build_lit (w : World) (r : ByteArray) (c0 c1 c2 c3 c4 c5 c6 c7 c8 c9 c10 c11 c12 c13 c14 c15 c16 c17 c18 c19 c20 c21 c22 c23 c24 c25 c26 c27 c28 c29 c30 c31 : Value) : (Instr.build 55 #[(0, .agg #[c0, c1, c2, c3, c4, c5, c6, c7, c8, c9, c10, c11, c12, c13, c14, c15, c16, c17, c18, c19, c20, c21, c22, c23, c24, c25, c26, c27, c28, c29, c30, c31]), (1, .string r), (2, .bool true)]).run Try.prog w = .ok (.agg #[c0, c1, c2, c3, c4, c5, c6, c7, c8, c9, c10, c11, c12, c13, c14, c15, c16, c17, c18, c19, c20, c21, c22, c23, c24, c25, c26, c27, c28, c29, c30, c31, .string r, .bool true]) w := by kernel_rfl
theorem build_got (w : World) (s r : ByteArray) (h : s.size = 32) : (Instr.build 55 #[(0, .agg (dcells s)), (1, .string r), (2, .bool true)]).run Try.prog w = .ok (.agg (gotCells s r true)) w := by
  have hz : (dcells s).size = 32 := by rw [dcells_size, h]
  unfold gotCells
  revert hz
  generalize dcells s = D
  intro hz
  obtain ⟨l⟩ := D
  match l, hz with
  | [c0, c1, c2, c3, c4, c5, c6, c7, c8, c9, c10, c11, c12, c13, c14, c15, c16, c17, c18, c19, c20, c21, c22, c23, c24, c25, c26, c27, c28, c29, c30, c31], _ => exact build_lit w r c0 c1 c2 c3 c4 c5 c6 c7 c8 c9 c10 c11 c12 c13 c14 c15 c16 c17 c18 c19 c20 c21 c22 c23 c24 c25 c26 c27 c28 c29 c30 c31
set_option maxHeartbeats 400000 in
set_option maxRecDepth 10000 in
theorem getsum_no (s : ByteArray) (h : s.size < 32) (w : World) : Calls Try.prog 18 #[.string s] w fun e w' => e = .returned (.tuple #[.agg (dcells zeros32), .string ⟨#[]⟩, .bool false]) ∧ Below w.heap.size w w' := by
  have hz := zeroD
  go_enter Try.func18, Try.ntmps18
  go_wp2_with fail
  clear hz
  rw [build_none]
  refine (parts_no zeros32 ⟨#[]⟩ zeros32_size _).mono ?_
  rintro e w1 ⟨rfl, hb⟩
  have h1 := hb.block w.heap.size (by simp)
  rw [heap_alloc_new] at h1
  have hs := Lib.hid h1
  have hq : (dcells zeros32).size = 32 := by rw [dcells_size, zeros32_size]
  clear h1
  rw [zcells_eq] at hs
  go_wp2_with (refine wpList_store_row rfl 28 (.tmp 2) (.tmp 10) rfl w.heap.size (dcells zeros32) rfl rfl 28 (dcells zeros32) hs.out (by rw [sizeD, hq]) rfl (dcells_one _) ?_; rw [setRow_self _ _ _ _ _ hs.out])
  have hl := run_loadVar_row (P := Try.prog) _ w.heap.size 28 28 (dcells zeros32) (0, 0) _ hs.out Try.underlying28 rfl (by rw [sizeD, hq])
  refine bodyPost_ret (v := .tuple #[.agg (dcells zeros32), .string ⟨#[]⟩, .bool false]) ?_ rfl ⟨rfl, ((Below.refl _ _).alloc (Nat.le_refl _) _).trans (hb.mono (by simp))⟩
  simp [results, Try.results18, asAddr, hl]

structure GS (w : World) (W : World) : Prop where
  b : Below w.heap.size w W
  d : ∃ d, W.heap[w.heap.size]? = some (.cells d 28 (0, 0)) ∧ d.size = 32
def GRow (w : World) (s : ByteArray) (g : Nat) (W : World) : Prop := w.heap.size < g ∧ g < W.heap.size ∧ W.rangeAt g 0 (dcells (s.extract 0 32)).toList
def GSl (w : World) (s : ByteArray) (v : Value) (W : World) : Prop := ∃ g c, v = .slice (some ⟨g, 0, none⟩) 32 c ∧ GRow w s g W
def GPt (w : World) (s : ByteArray) (v : Value) (W : World) : Prop := ∃ g, v = .pointer (some ⟨g, 0, none⟩) ∧ GRow w s g W
def GV (w : World) (s : ByteArray) : Nat → Value → World → Prop
  | 0, v, _ => v = .string s
  | 1, v, _ => v = .string (s.extract 0 32)
  | 2, v, W => GSl w s v W
  | 3, v, W => GPt w s v W
  | 4, v, _ => v = .agg (dcells (s.extract 0 32))
  | 5, v, _ => v = .string s
  | 6, v, _ => v = .string (s.extract 32 s.size)
  | 7, v, _ => v = .agg (gotCells (s.extract 0 32) (s.extract 32 s.size) true)
  | 8, v, _ => v = .tuple #[.agg (dcells (s.extract 0 32)), .string (s.extract 32 s.size), .bool true]
  | 9, v, _ => v = .agg (dcells (s.extract 0 32))
  | 10, v, _ => v = .string (s.extract 32 s.size)
  | 11, v, _ => v = .bool true
  | 12, _, W => W.heap[w.heap.size]? = some (.cells (dcells (s.extract 0 32)) 28 (0, 0))
  | 13, v, _ => v = .string (s.extract 32 s.size)
  | _, v, _ => v = .bool true
structure GE (w : World) (s : ByteArray) (W W' : World) : Prop where
  z : W.heap.size ≤ W'.heap.size
  o : ∀ k, k < W.heap.size → k ≠ w.heap.size → W'.heap[k]? = W.heap[k]?
  f : W.heap[w.heap.size]? = some (.cells (dcells (s.extract 0 32)) 28 (0, 0)) → W'.heap[w.heap.size]? = some (.cells (dcells (s.extract 0 32)) 28 (0, 0))
theorem GE.refl (w : World) (s : ByteArray) (W : World) : GE w s W W := ⟨Nat.le_refl _, fun _ _ _ => rfl, id⟩
theorem GE.range {w : World} {s : ByteArray} {W W' : World} (h : GE w s W W') {g : Nat} {cs : List Value} (h1 : w.heap.size < g) (h2 : g < W.heap.size) (hr : W.rangeAt g 0 cs) : W'.rangeAt g 0 cs := fun j v hj => by
  rw [← hr j v hj]
  exact World.cell?_of_block (h.o g h2 (by omega))
theorem GE.row {w : World} {s : ByteArray} {W W' : World} (h : GE w s W W') {g : Nat} (r : GRow w s g W) : GRow w s g W' := ⟨r.1, Nat.lt_of_lt_of_le r.2.1 h.z, h.range r.1 r.2.1 r.2.2⟩
theorem GV_keep (w : World) (s : ByteArray) : ∀ j u x y, GV w s j u x → GE w s x y → GV w s j u y := by
  intro j u x y h1 h2
  unfold GV at h1 ⊢
  split at h1 <;> first
    | exact h1
    | exact h2.f h1
    | (obtain ⟨g, c, e, r⟩ := h1; exact ⟨g, c, e, h2.row r⟩)
    | (obtain ⟨g, e, r⟩ := h1; exact ⟨g, e, h2.row r⟩)
theorem GE.of_below {w : World} {s : ByteArray} {W W' : World} (hw : w.heap.size < W.heap.size) (h : Below W.heap.size W W') : GE w s W W' :=
  ⟨h.size, fun k hk _ => h.block k hk, fun hf => (h.block _ hw).trans hf⟩
theorem GS.lt {w W : World} (h : GS w W) : w.heap.size < W.heap.size := by
  obtain ⟨d, hd, _⟩ := h.d
  exact (Array.getElem?_eq_some_iff.1 hd).1
theorem GS.below {w W W' : World} (hS : GS w W) (h : Below W.heap.size W W') : GS w W' := by
  refine ⟨hS.b.trans (h.mono hS.b.size), ?_⟩
  obtain ⟨d, hd, hz⟩ := hS.d
  exact ⟨d, (h.block _ hS.lt).trans hd, hz⟩
theorem bytesWorld_below (W : World) (e : TypeId) (p : ByteArray) : Below W.heap.size W (Lib.bytesWorld W e p) :=
  ⟨rfl, rfl, rfl, by rw [Lib.bytesWorld_size]; omega, fun k hk => Lib.bytesWorld_at_old W e p k hk⟩
theorem bytesWorld_range (W : World) (e : TypeId) (p : ByteArray) : (Lib.bytesWorld W e p).rangeAt W.heap.size 0 (dcells p).toList := fun j v hj => by
  have hj2 : (dcells p)[j]? = some v := by rwa [Array.getElem?_toList] at hj
  have hlt : j < p.size := by
    have := (Array.getElem?_eq_some_iff.1 hj2).1
    rwa [dcells_size] at this
  rw [dcells_get p j hlt] at hj2
  obtain rfl := Option.some.inj hj2
  have h' : j < p.data.toList.length := by rw [Array.length_toList]; exact hlt
  rw [Nat.zero_add, Lib.bytesWorld_cell W e p j hlt, List.getD_eq_getElem?_getD, List.getElem?_eq_getElem h']
  rfl
set_option maxHeartbeats 800000 in
set_option maxRecDepth 10000 in
theorem getsum_yes (s : ByteArray) (h : 32 ≤ s.size) (hs : s.size ≤ 9223372036854775807) (w : World) : Calls Try.prog 18 #[.string s] w fun e w' => e = .returned (.tuple #[.agg (dcells (s.extract 0 32)), .string (s.extract 32 s.size), .bool true]) ∧ Below w.heap.size w w' := by
  have hz := zeroD
  have hx : (s.extract 0 32).size = 32 := by simp; omega
  have hlt : ¬ ((s.size : Int) < 32) := by omega
  go_enter Try.func18, Try.ntmps18
  go_wp2_with fail
  refine Calm.calm_region (GS w) (GE w s) (GV w s) [0, 2] (by kernel_rfl) (by kernel_rfl) (by kernel_rfl) (GV_keep w s) (GE.refl w s) ⟨(((Below.refl _ _).alloc (Nat.le_refl _) _).drew), _, heap_alloc_new w _, zcells_size⟩ ?_ ?_
  · simp only [Calm.Steps, Calm.Step]
    refine ⟨?_, ?_, ?_, ?_, ?_, ?_, ?_, ?_, ?_, ?_, ?_, ?_, ?_, ?_, ?_, trivial⟩ <;> intro a W hS hN hF <;> simp [Calm.needs, Calm.same, Calm.Left, GV, Region.binds] at hN hF
    · exact Calm.step_val (Calm.wanted_none rfl) (.string s) (by simp [go_sem, Act.eval, hF]) hS (GE.refl _ _ _) rfl
    · exact Calm.step_val (Calm.wanted_none rfl) (.string (s.extract 0 32)) (by simp [go_sem, Act.eval, hN, hlt]) hS (GE.refl _ _ _) rfl
    · have hc := Lib.run_convert_string_bytes (P := Try.prog) W 9 39 5 (s.extract 0 32) Try.underlying9 Try.underlying39 Try.underlying5
      rw [hx] at hc
      have hb := bytesWorld_below W 5 (s.extract 0 32)
      exact Calm.step_val (Calm.wanted_none rfl) _ (by simp [go_sem, Act.eval, hN, hc]; rfl) (hS.below hb) (GE.of_below hS.lt hb) ⟨_, _, rfl, hS.lt, by rw [Lib.bytesWorld_size]; omega, bytesWorld_range W 5 _⟩
    · obtain ⟨g, c, e, r⟩ := hN
      exact Calm.step_val (Calm.wanted_none rfl) (.pointer (some ⟨g, 0, none⟩)) (by simp [go_sem, Act.eval, e, Instr.arrayAt, run_underlying Try.underlying28]) hS (GE.refl _ _ _) ⟨g, rfl, r⟩
    · obtain ⟨g, e, r⟩ := hN
      have hl := run_loadAt_mid (P := Try.prog) W g 0 28 (dcells (s.extract 0 32)).toList _ r.2.2 Try.underlying28 rfl (by rw [sizeD, Array.length_toList, dcells_size, hx])
      exact Calm.step_val (Calm.wanted_none rfl) (.agg (dcells (s.extract 0 32))) (Calm.run_op_load rfl (Calm.eval_tmp e) hl) hS (GE.refl _ _ _) rfl
    · exact Calm.step_val (Calm.wanted_none rfl) (.string s) (by simp [go_sem, Act.eval, hF]) hS (GE.refl _ _ _) rfl
    · exact Calm.step_val (Calm.wanted_none rfl) (.string (s.extract 32 s.size)) (by simp [go_sem, Act.eval, hN, hlt]) hS (GE.refl _ _ _) rfl
    · have hb := build_got W (s.extract 0 32) (s.extract 32 s.size) hx
      exact Calm.step_val (Calm.wanted_none rfl) _ (by simp [execOp, Act.eval, hN, hb]) hS (GE.refl _ _ _) rfl
    · refine Calm.step_call (Calm.wanted_none rfl) (f := 32) (args := #[.agg (gotCells (s.extract 0 32) (s.extract 32 s.size) true)]) (by simp [go_sem, Act.eval, hN]) ((parts_yes _ _ hx W).mono ?_)
      rintro e w' ⟨rfl, hb⟩
      exact ⟨_, rfl, hS.below hb, GE.of_below hS.lt hb, rfl⟩
    · exact Calm.step_val (Calm.wanted_none rfl) (.agg (dcells (s.extract 0 32))) (by simp [go_sem, Act.eval, hN]) hS (GE.refl _ _ _) rfl
    · exact Calm.step_val (Calm.wanted_none rfl) (.string (s.extract 32 s.size)) (by simp [go_sem, Act.eval, hN]) hS (GE.refl _ _ _) rfl
    · exact Calm.step_val (Calm.wanted_none rfl) (.bool true) (by simp [go_sem, Act.eval, hN]) hS (GE.refl _ _ _) rfl
    · obtain ⟨d, hd, hdz⟩ := hS.d
      have hs := run_storeVar_row (P := Try.prog) W w.heap.size 28 28 d (dcells (s.extract 0 32)) hd (by rw [sizeD, dcells_size, hx]) (by rw [hdz, dcells_size, hx]) (dcells_one _)
      exact Calm.step_skip (Calm.wanted_none rfl) (w' := W.setRow w.heap.size (dcells (s.extract 0 32))) (Calm.run_op_store rfl (Calm.eval_tmp hF.2) (Calm.eval_tmp hN.1) (by simp only [Instr.storeAt, Instr.sureAddr, Sem.run_bind, Sem.run_pure, Result.andThen, hs]))
        ⟨below_setRow hS.b (Nat.le_refl _) _, _, setRow_heap _ _ _ _ _ _ hd, by rw [dcells_size, hx]⟩ ⟨by simp, fun k _ hk => setRow_other _ _ _ _ hk, fun _ => setRow_heap _ _ _ _ _ _ hd⟩ (setRow_heap _ _ _ _ _ _ hd)
    · exact Calm.step_val (Calm.wanted_none rfl) (.string (s.extract 32 s.size)) (by simp [go_sem, Act.eval, hN]) hS (GE.refl _ _ _) rfl
    · exact Calm.step_val (Calm.wanted_none rfl) (.bool true) (by simp [go_sem, Act.eval, hN]) hS (GE.refl _ _ _) rfl
  · intro a W hI
    obtain ⟨_, hd⟩ := hI.left 12 rfl
    have h5 : a.tmps.getD 3 undef = .string (s.extract 32 s.size) := hI.left 13 rfl
    have h6 : a.tmps.getD 4 undef = .bool true := hI.left 14 rfl
    have h0 : a.tmps.getD 2 undef = .pointer (some ⟨w.heap.size, 0, none⟩) := hI.f 2 (by kernel_rfl)
    have hl := run_loadVar_row (P := Try.prog) W w.heap.size 28 28 (dcells (s.extract 0 32)) (0, 0) _ hd Try.underlying28 rfl (by rw [sizeD, dcells_size, hx])
    have hdf := hI.d
    have hb := hI.s.b
    clear hz hx hI hlt
    go_wp2_with fail
    refine bodyPost_ret (v := .tuple #[.agg (dcells (s.extract 0 32)), .string (s.extract 32 s.size), .bool true]) ?_ hdf ⟨rfl, hb⟩
    simp at h0 h5 h6
    simp [results, Try.results18, asAddr, h0, h5, h6, hl]
end Go.Proofs.Ytgdhbmdhgejnkaa.WireD
