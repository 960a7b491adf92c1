/- The walks of strings.IndexRune over the digits, at any rune, and of what it calls. -/
import Derived.Test.YtkejhcpaklefjaaCrcS
import Derived.Laws.Runes
import Derived.Laws.RangeAny
import Derived.Lib.Bytealg
import Derived.Lib.Strings
import Derived.Test.YtkejhcpaklefjaaCalmF
import Derived.WalkMore
namespace Go.Proofs.Ytkejhcpaklefjaa.CrcI
open Go.RowKit Go.Proofs.Ytkejhcpaklefjaa.CrcS

set_option maxHeartbeats 1000000 in
set_option maxRecDepth 100000 in
theorem indexByte0 (s : ByteArray) (c : Int) (w : World) : Calls Try.prog 27 #[.string s, .int .u8 c] w fun e w' => e = .returned (.int .i64 (Lib.indexByte s.data.toList c.toNat.toUInt8)) ∧ w' = w := by
  go_enter Try.func27, Try.ntmps27
  go_wp2_with fail
  rw [run_callFunc_extern Try.func28 (by kernel_rfl) (by kernel_rfl) (by kernel_rfl) (e := Extern.BytealgIndexByte.indexByte) (by kernel_rfl), Lib.run_indexByteString]
  simp only [Result.andThen]
  rw [Oper.upon_value]
  go_wp2_with fail
  go_ret
  exact ⟨rfl, rfl⟩
set_option maxHeartbeats 1000000 in
set_option maxRecDepth 100000 in
theorem indexByte_any (s : ByteArray) (c : Int) (w : World) : Calls Try.prog 23 #[.string s, .int .u8 c] w fun e w' => e = .returned (.int .i64 (Lib.indexByte s.data.toList c.toNat.toUInt8)) ∧ w' = w := by
  go_enter Try.func23, Try.ntmps23
  go_wp2_with fail
  refine (indexByte0 s c w).mono ?_
  rintro e w' ⟨rfl, rfl⟩
  go_wp2_with fail
  go_ret
  exact ⟨rfl, rfl⟩
theorem valid_low {r : Int} (h0 : 0 ≤ r) (h1 : r < 55296) : Utf8.valid r = true := by
  unfold Utf8.valid
  simp
  omega
theorem valid_high {r : Int} (h0 : 57343 < r) (h1 : r ≤ 1114111) : Utf8.valid r = true := by
  unfold Utf8.valid
  simp
  omega
theorem valid_not {r : Int} (h0 : ¬ (0 ≤ r ∧ r < 55296)) (h1 : ¬ (57343 < r ∧ r ≤ 1114111)) : Utf8.valid r = false := by
  unfold Utf8.valid
  simp
  omega
set_option maxHeartbeats 2000000 in
set_option maxRecDepth 100000 in
theorem valid_any (r : Int) (w : World) : Calls Try.prog 24 #[.int .i32 r] w fun e w' => e = .returned (.bool (Utf8.valid r)) ∧ w' = w := by
  by_cases h0 : 0 ≤ r
  · by_cases h1 : r < 55296
    · have hv := Lib.hid (valid_low h0 h1)
      go_enter Try.func24, Try.ntmps24
      go_wp2_with fail
      go_ret
      exact ⟨by rw [hv.out]; rfl, rfl⟩
    · by_cases h2 : 57343 < r
      · by_cases h3 : r ≤ 1114111
        · have hv := Lib.hid (valid_high h2 h3)
          go_enter Try.func24, Try.ntmps24
          go_wp2_with fail
          go_ret
          exact ⟨by rw [hv.out]; rfl, rfl⟩
        · have hv := Lib.hid (valid_not (r := r) (by omega) (by omega))
          go_enter Try.func24, Try.ntmps24
          go_wp2_with fail
          go_ret
          exact ⟨by rw [hv.out]; rfl, rfl⟩
      · have hv := Lib.hid (valid_not (r := r) (by omega) (by omega))
        go_enter Try.func24, Try.ntmps24
        go_wp2_with fail
        go_ret
        exact ⟨by rw [hv.out]; rfl, rfl⟩
  · have h2 : ¬ 57343 < r := by omega
    have hv := Lib.hid (valid_not (r := r) (by omega) (by omega))
    go_enter Try.func24, Try.ntmps24
    go_wp2_with fail
    go_ret
    exact ⟨by rw [hv.out]; rfl, rfl⟩
set_option maxHeartbeats 2000000 in
set_option maxRecDepth 1000000 in
theorem rune_ascii (s : ByteArray) (r : Int) (h0 : 0 ≤ r) (h1 : r < 128) (w : World) : Calls Try.prog 22 #[.string s, .int .i32 r] w fun e w' => e = .returned (.int .i64 (Lib.indexByte s.data.toList r.toNat.toUInt8)) ∧ w' = w := by
  go_enter Try.func22, Try.ntmps22
  go_wp2_with (go_at_call 23; refine (indexByte_any _ _ _).mono ?_; rintro e w' ⟨rfl, hw⟩; rw [hw])
  go_ret
  exact ⟨rfl, rfl⟩
theorem digits_size : digits.size = 16 := rfl
theorem digits_ascii : ∀ p : Nat, ∀ h : p < digits.size, (digits[p]'h).toNat < 128 := by
  intro p h
  have : ∀ q : Fin 16, (digits[q.val]'q.isLt).toNat < 128 := by decide
  exact this ⟨p, h⟩
theorem iter_below (w : World) (s : ByteArray) (p : Nat) : Below w.heap.size w (w.iter s p) := (Below.refl _ _).alloc (Nat.le_refl _) _
set_option maxHeartbeats 2000000 in
set_option maxRecDepth 1000000 in
theorem rune_error (r : Int) (h0 : r = 65533) (w : World) : Calls Try.prog 22 #[.string digits, .int .i32 r] w fun e w' => e = .returned (.int .i64 (-1)) ∧ Below w.heap.size w w' := by
  subst h0
  have hds := digits_size
  have hda := digits_ascii
  have hib := iter_below w digits
  have hend := run_next_end (P := Try.prog) w digits 16
  have hnx := fun p ty h => run_next_ascii (P := Try.prog) w digits p ty h (digits_ascii p h)
  generalize digits = s at hds hda hib hend hnx
  go_enter Try.func22, Try.ntmps22
  go_wp2_with fail
  go_loopw [5] (fun _ wr => ∃ p : Nat, p ≤ 16 ∧ wr = w.iter s p) (fun _ wr => 16 - wr.iterPos w.heap.size)
  case atStart => exact ⟨0, by omega, rfl⟩
  case round =>
    obtain ⟨p, hp, rfl⟩ := hrel
    by_cases hlt : p < 16
    · have hx := hnx p
      have hc := hda p (by omega)
      go_wp2_with fail
      go_roundw
      case rel => exact ⟨p + 1, by omega, rfl⟩
      case measure => simp; omega
    · obtain rfl : p = 16 := by omega
      have hx := fun ty => hend ty (by omega)
      go_wp2_with fail
      go_ret
      exact ⟨rfl, hib 16⟩
set_option maxHeartbeats 2000000 in
set_option maxRecDepth 1000000 in
theorem rune_bad (s : ByteArray) (r : Int) (h0 : 128 ≤ r) (h1 : r ≠ 65533) (hv : Utf8.valid r = false) (w : World) : Calls Try.prog 22 #[.string s, .int .i32 r] w fun e w' => e = .returned (.int .i64 (-1)) ∧ w' = w := by
  have q1 : ¬ r < 128 := by omega
  go_enter Try.func22, Try.ntmps22
  go_wp2_with (go_at_call 24; refine (valid_any _ _).mono ?_; rintro e w' ⟨rfl, hw⟩; rw [hw, hv])
  go_ret
  exact ⟨rfl, rfl⟩
theorem indexByte_high : ∀ (l : List UInt8) (c : UInt8), (∀ b ∈ l, b.toNat < 128) → 128 ≤ c.toNat → Lib.indexByte l c = -1
  | [], _, _, _ => rfl
  | b :: l, c, h, hc => by
    have h1 := h b List.mem_cons_self
    have h2 : (b == c) = false := by
      rw [beq_eq_false_iff_ne]
      rintro rfl
      omega
    rw [Lib.indexByte, h2, indexByte_high l c (fun x hx => h x (List.mem_cons_of_mem _ hx)) hc]
    rfl
def W6 (s d : ByteArray) (j : Nat) (x y : Int) : Nat → Value
  | 0 => .string s
  | 1 => .int .i64 j
  | 2 => .int .u8 x
  | 3 => .string d
  | 4 => .int .i64 j
  | 5 => .int .u8 y
  | _ => .bool true
def V6 (s d : ByteArray) (j : Nat) (x y : Int) (i : Nat) (v : Value) (_ : World) : Prop := v = W6 s d j x y i
def W7 (s d : ByteArray) (j : Nat) (y : Int) : Nat → Value
  | 0 => .string s
  | 1 => .int .i64 j
  | 2 => .int .i64 ((j : Int) + 1)
  | 3 => .string (s.extract (j + 1) s.size)
  | 4 => .string d
  | 5 => .int .i64 j
  | 6 => .int .u8 y
  | _ => .int .i64 (-1)
def V7 (s d : ByteArray) (j : Nat) (y : Int) (i : Nat) (v : Value) (_ : World) : Prop := v = W7 s d j y i
abbrev RS (w W : World) : Prop := Below w.heap.size w W
abbrev RE (W W' : World) : Prop := Below W.heap.size W W'
set_option maxHeartbeats 2000000 in
set_option maxRecDepth 1000000 in
theorem rune_wide (r : Int) (h0 : 128 ≤ r) (h1 : r ≠ 65533) (hv : Utf8.valid r = true) (w : World) : Calls Try.prog 22 #[.string digits, .int .i32 r] w fun e w' => e = .returned (.int .i64 (-1)) ∧ Below w.heap.size w w' := by
  have q1 : ¬ r < 128 := by omega
  obtain ⟨e1, e2, e3⟩ := encode_facts r hv h0
  have hds := digits_size
  have hda := digits_ascii
  have hcv := fun W : World => run_convert_int_string (P := Try.prog) W 21 9 .i32 r (by rw [Try.underlying21]; rfl) Try.underlying9
  have hV := valid_any r
  rw [hv] at hV
  generalize digits = s at hds hda
  generalize Utf8.encode r = d at e1 e2 e3 hcv
  obtain ⟨j, hj⟩ : ∃ j, d.size = j + 1 := ⟨d.size - 1, by omega⟩
  have hjd : j < d.size := by omega
  have hjs : j < s.size := by omega
  obtain ⟨y, hy, hyv⟩ : ∃ y : Int, ((d[j]'hjd).toNat : Int) = y ∧ (128 ≤ y ∧ y < 256) := by
    refine ⟨_, rfl, ?_⟩
    have h := e3 (by omega)
    have e : d[d.size - 1]'(by omega) = d[j]'hjd := by congr 1; omega
    rw [e] at h
    have := (d[j]'hjd).toNat_lt
    omega
  obtain ⟨x, hx, hxv⟩ : ∃ x : Int, ((s[j]'hjs).toNat : Int) = x ∧ x < 128 := ⟨_, rfl, by have := hda j hjs; omega⟩
  have hxy : ¬ x = y := by omega
  have cI := indexByte_any (s.extract (j + 1) s.size) y
  have hI : Lib.indexByte (s.extract (j + 1) s.size).data.toList y.toNat.toUInt8 = -1 := by
    refine indexByte_high _ _ (fun b hb => ?_) ?_
    · have hb2 : b ∈ s.data.toList := by
        rw [ByteArray.data_extract, Array.toList_extract] at hb
        exact List.mem_of_mem_drop (List.mem_of_mem_take hb)
      obtain ⟨i, hi, rfl⟩ := List.getElem_of_mem hb2
      exact hda i (by rw [Array.length_toList] at hi; exact hi)
    · have : (y.toNat.toUInt8).toNat = y.toNat := by
        rw [Nat.toUInt8_eq, UInt8.toNat_ofNat', Nat.mod_eq_of_lt (by omega)]
      omega
  rw [hI] at cI
  clear hv e3 hda hI
  go_enter Try.func22, Try.ntmps22
  go_wp2_with (go_at_call 24; refine (hV _).mono ?_; rintro e w' ⟨rfl, hw⟩; rw [hw])
  clear hw w' hV
  go_step3
  go_wp2_with fail
  go_loopw [9, 10] (fun v9 v10 wr => v9 = .int .i64 j ∧ v10 = .int .i64 0 ∧ wr = w) (fun _ _ _ => 0)
  case atStart => exact ⟨rfl, rfl, rfl⟩
  case round =>
    obtain ⟨rfl, rfl, rfl⟩ := hrel
    go_wp2_with fail
    go_step3
    go_wp2_with fail
    refine Calm.calm_region (RS wr) RE (V6 s d j x y) [0, 7, 8, 9] (by kernel_rfl) (by kernel_rfl) (by kernel_rfl) (fun _ _ _ _ h _ => h) (fun _ => Below.refl _ _) (Below.refl _ _).drew ?_ ?_
    · simp only [Calm.Steps, Calm.Step]
      refine ⟨?_, ?_, ?_, ?_, ?_, ?_, ?_, trivial⟩ <;> intro a W hS hN hF <;> simp [Calm.needs, Calm.same, Calm.Left, V6, W6, Region.binds] at hN hF
      · refine Calm.step_val (Calm.wanted_none rfl) _ ?_ hS (Below.refl _ _) rfl; simp [go_sem, Act.eval, hF, W6]
      · refine Calm.step_val (Calm.wanted_none rfl) _ ?_ hS (Below.refl _ _) rfl; simp [go_sem, Act.eval, hF, W6]
      · refine Calm.step_val (Calm.wanted_none rfl) _ ?_ hS (Below.refl _ _) rfl; simp [go_sem, Act.eval, hN, W6, hjs, hx]
      · refine Calm.step_val (Calm.wanted_none rfl) _ ?_ hS (Below.refl _ _) rfl; simp [go_sem, Act.eval, hF, W6]
      · refine Calm.step_val (Calm.wanted_none rfl) _ ?_ hS (Below.refl _ _) rfl; simp [go_sem, Act.eval, hF, W6]
      · refine Calm.step_val (Calm.wanted_none rfl) _ ?_ hS (Below.refl _ _) rfl; simp [go_sem, Act.eval, hN, W6, hjd, hy]
      · refine Calm.step_val (Calm.wanted_none rfl) _ ?_ hS (Below.refl _ _) rfl; simp [go_sem, Act.eval, hN, W6, hxy]
    · intro a W hI
      have ha := hI.frame (by kernel_rfl) (W6 s d j x y) (fun i v h _ _ => h)
      have hS := hI.s
      clear hI
      subst ha
      simp only [Calm.puts, W6]
      go_wp2_with fail
      refine Calm.calm_region (RS wr) RE (V7 s d j y) [0, 7, 8, 9] (by kernel_rfl) (by kernel_rfl) (by kernel_rfl) (fun _ _ _ _ h _ => h) (fun _ => Below.refl _ _) hS.drew ?_ ?_
      · clear hS
        have hwr : IntKind.i64.wrap ((j : Int) + 1) = (j : Int) + 1 := wrap_small _ (by omega) (by omega)
        simp only [Calm.Steps, Calm.Step]
        refine ⟨?_, ?_, ?_, ?_, ?_, ?_, ?_, ?_, ?_, trivial⟩ <;> intro a W hS hN hF <;> simp [Calm.needs, Calm.same, Calm.Left, V7, W7, Region.binds] at hN hF
        · refine Calm.step_val (Calm.wanted_none rfl) _ ?_ hS (Below.refl _ _) rfl; simp [go_sem, Act.eval, hF, W7]
        · refine Calm.step_val (Calm.wanted_none rfl) _ ?_ hS (Below.refl _ _) rfl; simp [go_sem, Act.eval, hF, W7]
        · refine Calm.step_val (Calm.wanted_none rfl) (.int .i64 ((j : Int) + 1)) ?_ hS (Below.refl _ _) rfl
          simp [go_sem, Act.eval, hN, hwr]
        · refine Calm.step_val (Calm.wanted_none rfl) (.string (s.extract (j + 1) s.size)) ?_ hS (Below.refl _ _) rfl
          have hj3 : ¬ ((j : Int) + 1 < 0) := by omega
          have hj4 : ¬ ((s.size : Int) < (j : Int) + 1) := by omega
          have hj5 : ((j : Int) + 1).toNat = j + 1 := by omega
          simp [go_sem, Act.eval, hN, hj3, hj4, hj5]
        · refine Calm.step_val (Calm.wanted_none rfl) _ ?_ hS (Below.refl _ _) rfl; simp [go_sem, Act.eval, hF, W7]
        · refine Calm.step_val (Calm.wanted_none rfl) _ ?_ hS (Below.refl _ _) rfl; simp [go_sem, Act.eval, hF, W7]
        · refine Calm.step_val (Calm.wanted_none rfl) _ ?_ hS (Below.refl _ _) rfl; simp [go_sem, Act.eval, hN, W7, hjd, hy]
        · refine Calm.step_call (Calm.wanted_none rfl) (f := 23) (args := #[.string (s.extract (j + 1) s.size), .int .u8 y]) (w1 := W) (by simp [go_sem, Act.eval, hN]) ((cI W).mono ?_)
          rintro e w' ⟨rfl, rfl⟩
          exact ⟨_, rfl, hS, Below.refl _ _, rfl⟩
        · refine Calm.step_val (Calm.wanted_none rfl) _ ?_ hS (Below.refl _ _) rfl; simp [go_sem, Act.eval, hN, W7]
      · intro a W hI
        have ha := hI.frame (by kernel_rfl) (W7 s d j y) (fun i v h _ _ => h)
        have hS := hI.s
        clear hI
        subst ha
        simp only [Calm.puts, W7]
        go_wp2_with fail
        rw [Exit.noGoto_ret]
        go_wp2_with fail
        rw [Exit.noGoto_ret]
        go_wp2_with fail
        go_ret
        exact ⟨rfl, hS⟩
end Go.Proofs.Ytkejhcpaklefjaa.CrcI
