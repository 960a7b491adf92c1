/- What the printed functions of wire and of its reference come to, plainly (the page seat's). -/
import Derived.Test.YtobkeakbahkglaaFn1
import Derived.Test.YtobkeakbahkglaaFn2
import Derived.Test.YtobkeakbahkglaaFn3
import Derived.Test.YtobkeakbahkglaaFn4
import Derived.Test.YtobkeakbahkglaaWireM
import Derived.Test.YtobkeakbahkglaaCrcL
namespace Go.Proofs.Ytobkeakbahkglaa.WireP
open Go.RowKit Go.Proofs.Ytobkeakbahkglaa.Fn Go.Proofs.YtobkeakbahkglaaW.PrintWords Go.Proofs.YtobkeakbahkglaaW.PrintLast Go.Proofs.YtobkeakbahkglaaW.PrintMore Go.Proofs.Ytobkeakbahkglaa.WireM
set_option linter.unusedVariables false

/-! ### Words -/
def u8 (n : Int) : UInt8 := UInt8.ofNat n.toNat
theorem strOf_B (xs : List Int) : strOfNums xs = B (xs.map u8) := rfl
theorem B_append (p q : List UInt8) : B p ++ B q = B (p ++ q) := L_inj (by rw [L_append]; rfl)
theorem B_size (p : List UInt8) : (B p).size = p.length := by rw [size_L, L_B]
theorem bt_get {s : ByteArray} {i : Nat} {l : List UInt8} {b : UInt8} {pre : List UInt8} (hs : L s = pre ++ b :: l) (hi : pre.length = i) : bt s (i : Int) = (b.toNat : Int) := by
  have hlt : i < s.size := by rw [size_L, hs]; simp; omega
  unfold bt
  rw [dif_pos (by simpa using hlt)]
  have h2 : s[i]'hlt = (L s)[i]'(by rw [← size_L]; exact hlt) := rfl
  simp only [Int.toNat_natCast]
  rw [h2]
  congr 2
  simp only [hs]
  rw [List.getElem_append_right (by omega)]
  simp [hi]
theorem mod256 (m : Nat) : ((m : Int) % 256).toNat = m % 256 := by omega
theorem or128 : ∀ x, x < 256 → x ||| 128 = x % 128 + 128 := by decide +kernel
theorem and127 (x : Nat) : x &&& 127 = x % 128 := Nat.and_two_pow_sub_one_eq_mod x 7
theorem w64 {n : Int} (h0 : -9223372036854775808 ≤ n) (h1 : n ≤ 9223372036854775807) : wrap64 n = n := by unfold wrap64; omega
theorem u8_nat (m : Nat) : u8 (m : Int) = UInt8.ofNat m := by simp [u8]
theorem ofNat_mod (m : Nat) : UInt8.ofNat (m % 256) = UInt8.ofNat m := by
  apply UInt8.toNat_inj.1
  simp

/-! ### Num -/
def clampN (n : Int) : Nat := (mn (mx n 0) 1125899906842624).toNat
theorem clampN_eq (n : Int) : mn (mx n 0) 1125899906842624 = (clampN n : Int) := by
  unfold clampN mn mx
  split <;> split <;> omega
theorem clampN_le (n : Int) : clampN n ≤ maxN := by
  unfold clampN mn mx maxN
  split <;> split <;> omega
theorem clampN_in {n : Int} (h0 : 0 ≤ n) (h1 : n ≤ 1125899906842624) : clampN n = n.toNat := by
  unfold clampN mn mx
  split <;> split <;> omega
theorem num_l0 (m : Nat) : ∀ (xs : List Int) (k : Nat), m < k → xs.length + (numB m).length ≤ 140737488355328 → wire_Num.l0 k (m : Int) xs = some (B (xs.map u8 ++ numB m)) := by
  induction m using Nat.strongRecOn with
  | _ m ih =>
    intro xs k hk hl
    obtain ⟨k, rfl⟩ : ∃ j, k = j + 1 := ⟨k - 1, by omega⟩
    simp only [wire_Num.l0]
    by_cases h : m < 128
    · rw [numB_lt h] at hl
      simp at hl
      rw [if_neg (by omega), if_pos (by omega), strOf_B, List.map_append, numB_lt h]
      have : u8 ((m : Int) % 256) = UInt8.ofNat m := by
        rw [show ((m : Int) % 256) = (m : Int) by omega, u8_nat]
      simp [this]
    · rw [numB_ge h] at hl
      simp at hl
      rw [if_pos (by omega), if_pos (by omega)]
      have e1 : (m : Int) / 128 = ((m / 128 : Nat) : Int) := by omega
      have e2 : Go.bits .or .u8 ((m : Int) % 256) 128 = ((m % 128 + 128 : Nat) : Int) := by
        have := u8_or_nat (m % 256) 128 (by omega) (by omega)
        rw [or128 _ (by omega), show m % 256 % 128 = m % 128 by omega] at this
        simpa using this
      rw [e1, e2, ih (m / 128) (by omega) _ k (by omega) (by rw [List.length_append]; simp; omega), numB_ge h, List.map_append, List.map_cons, u8_nat]
      simp
theorem num_ev (n : Int) : Ev (fun k => wire_Num.f k n) (B (numB (clampN n))) := by
  refine ⟨clampN n + 1, fun k hk => ?_⟩
  show wire_Num.f k n = _
  unfold wire_Num.f
  rw [clampN_eq, num_l0 _ _ _ (by omega) (by have := numB_len8 (clampN_le n); simp; omega)]
  rfl
/-! ### GetNum -/
theorem short_snoc : ∀ (q : List UInt8) (b : UInt8), short (q ++ [b]) = (q.isEmpty || decide (0 < b.toNat))
  | [], b => rfl
  | [c], b => by simp [short]
  | c :: d :: q, b => by
    have ih := short_snoc (d :: q) b
    rw [List.cons_append, List.cons_append, short_cons]
    simp only [List.append_eq_nil_iff, List.cons_ne_self, and_false, if_false]
    simpa using ih
/-- What num tells where the bytes from here on are l, and those before it pre. -/
def numR (pre l : List UInt8) (f : Nat) : Int × ByteArray × Bool :=
  match split f l with
  | some x => ((val (pre ++ x.1) : Int), B x.2, decide (val (pre ++ x.1) ≤ maxN) && short (pre ++ x.1))
  | none => (0, ⟨#[]⟩, false)
theorem val_snoc (pre : List UInt8) (b : UInt8) : val (pre ++ [b]) = val pre + 128 ^ pre.length * (b.toNat % 128) := by
  rw [val_append]
  simp [val]
theorem or_digit (pre : List UInt8) (b : UInt8) (h : pre.length < 8) : Go.bits .or .i64 (val pre : Int) (shl .i64 (wrap64 (Go.bits .and .u8 (b.toNat : Int) 127)) (wrap64 (7 * (pre.length : Int)))) = (val (pre ++ [b]) : Int) := by
  have hb : b.toNat < 256 := b.toNat_lt
  have e1 : Go.bits .and .u8 (b.toNat : Int) 127 = ((b.toNat % 128 : Nat) : Int) := by
    have := u8_and_nat b.toNat 127 hb (by omega)
    rw [and127] at this
    exact this
  have e2 : wrap64 (7 * (pre.length : Int)) = ((7 * pre.length : Nat) : Int) := by rw [w64 (by omega) (by omega)]; omega
  have hp : (2 : Nat) ^ (7 * pre.length) = 128 ^ pre.length := by rw [Nat.pow_mul]
  have hle : 128 ^ pre.length ≤ 128 ^ 7 := Nat.pow_le_pow_right (by omega) (by omega)
  have hlt : 128 ^ pre.length * (b.toNat % 128) ≤ 128 ^ 7 * 127 := Nat.mul_le_mul hle (by omega)
  have e3 : shl .i64 ((b.toNat % 128 : Nat) : Int) ((7 * pre.length : Nat) : Int) = ((128 ^ pre.length * (b.toNat % 128) : Nat) : Int) := by
    unfold shl
    rw [Int.toNat_natCast, show min (7 * pre.length) (IntKind.bits .i64) = 7 * pre.length by simp [IntKind.bits]; omega]
    have : ((b.toNat % 128 : Nat) : Int) * 2 ^ (7 * pre.length) = ((128 ^ pre.length * (b.toNat % 128) : Nat) : Int) := by
      rw [← hp]
      push_cast
      rw [Int.mul_comm]
    rw [this, IntKind.wrap_i64]
    omega
  have hv := val_lt pre
  rw [e1, w64 (by omega) (by omega), e2, e3]
  have h4 : Go.bits .or .i64 (val pre : Int) ((128 ^ pre.length * (b.toNat % 128) : Nat) : Int) = ((val pre ||| 128 ^ pre.length * (b.toNat % 128) : Nat) : Int) := by
    have hx : val pre ||| 128 ^ pre.length * (b.toNat % 128) < 2 ^ 63 := Nat.or_lt_two_pow (by omega) (by omega)
    have ofI : ∀ a : Nat, a < 9223372036854775808 → (BitVec.ofInt 64 (a : Int)).toNat = a := fun a ha => by
      rw [BitVec.ofInt_natCast, BitVec.toNat_ofNat]; exact Nat.mod_eq_of_lt (by omega)
    show IntKind.i64.wrap ((BitVec.ofInt 64 (val pre : Int) ||| BitVec.ofInt 64 ((128 ^ pre.length * (b.toNat % 128) : Nat) : Int)).toNat : Int) = _
    rw [BitVec.toNat_or, ofI _ (by omega), ofI _ (by omega), IntKind.wrap_i64]
    omega
  rw [h4, val_snoc, Nat.or_comm, ← hp, ← Nat.two_pow_add_eq_or_of_lt (by rw [hp]; exact hv), Nat.add_comm]
theorem num_loop (s : ByteArray) (hz : s.size ≤ 9223372036854775807) : ∀ (f : Nat) (pre l : List UInt8) (k : Nat), L s = pre ++ l → pre.length + f = 8 → f < k →
    wire_num.l0 k s (val pre : Int) (mn (s.size : Int) 8) (pre.length : Int) = some (numR pre l f) := by
  intro f
  induction f with
  | zero =>
    intro pre l k hs hf hk
    obtain ⟨k, rfl⟩ : ∃ j, k = j + 1 := ⟨k - 1, by omega⟩
    simp only [wire_num.l0]
    rw [if_neg (by unfold mn; split <;> omega)]
    rfl
  | succ f ih =>
    intro pre l k hs hf hk
    obtain ⟨k, rfl⟩ : ∃ j, k = j + 1 := ⟨k - 1, by omega⟩
    simp only [wire_num.l0]
    cases l with
    | nil =>
      have : s.size = pre.length := by rw [size_L, hs]; simp
      rw [if_neg (by unfold mn; split <;> omega)]
      rfl
    | cons b r =>
      have hsz : pre.length < s.size := by rw [size_L, hs]; simp
      have hbt : bt s (pre.length : Int) = (b.toNat : Int) := bt_get hs rfl
      have e7 : wrap64 (7 * (pre.length : Int)) = ((7 * pre.length : Nat) : Int) := by rw [w64 (by omega) (by omega)]; omega
      have e1 : wrap64 ((pre.length : Int) + 1) = ((pre.length + 1 : Nat) : Int) := by rw [w64 (by omega) (by omega)]; omega
      rw [if_pos (by unfold mn; split <;> omega), if_pos (by omega), if_pos (by omega), if_pos (by rw [e7]; omega), hbt, or_digit pre b (by omega), e1]
      by_cases hb : b.toNat < 128
      · have hx : s.extract (((pre.length + 1 : Nat) : Int).toNat) s.size = B r := by
          apply L_inj
          rw [L_extract, hs, L_B, Int.toNat_natCast, ← List.singleton_append, ← List.append_assoc, List.drop_append_of_le_length (by simp), List.drop_of_length_le (by simp), List.nil_append, List.take_of_length_le]
          rw [size_L, hs]
          simp
          omega
        rw [if_pos (by omega), if_pos (by omega), if_pos (by omega), hx]
        unfold numR split
        rw [if_pos hb]
        dsimp only
        rw [short_snoc]
        by_cases hm : val (pre ++ [b]) ≤ maxN
        · rw [if_pos (by unfold maxN at hm; omega)]
          cases pre with
          | nil =>
            rw [if_pos (by simp)]
            simp
            simpa using hm
          | cons c q =>
            rw [if_neg (by simp; omega)]
            simp
            intro _
            simpa using hm
        · rw [if_neg (by unfold maxN at hm; omega)]
          simp [hm]
      · rw [if_neg (by omega)]
        have h1 := ih (pre ++ [b]) r k (by rw [hs]; simp) (by simp; omega) (by omega)
        rw [List.length_append] at h1
        simp only [List.length_singleton] at h1
        rw [h1]
        unfold numR
        conv => rhs; unfold split
        rw [if_neg hb]
        cases split f r with
        | none => rfl
        | some x => simp
theorem getnum_ev (s : ByteArray) (hz : s.size ≤ 9223372036854775807) : Ev (fun k => wire_GetNum.f k s) (match getNum (L s) with
    | some x => ((x.1 : Int), B x.2, true)
    | none => (0, ⟨#[]⟩, false)) := by
  refine ⟨9, fun k hk => ?_⟩
  show wire_GetNum.f k s = _
  unfold wire_GetNum.f wire_num.f
  have h1 := num_loop s hz 8 [] (L s) k rfl rfl (by omega)
  have h2 : wire_num.l0 k s 0 (mn (s.size : Int) 8) 0 = some (numR [] (L s) 8) := h1
  rw [h2]
  unfold numR getNum wire_got_int_parts.f
  cases split 8 (L s) with
  | none => rfl
  | some x =>
    by_cases hm : val x.1 ≤ maxN <;> by_cases hs : short x.1 = true <;> simp [hm, hs]

/-! ### The reference's GetNum -/
theorem toList_L (s : ByteArray) : s.toList = L s := ByteArray.toList_eq s
theorem form_snoc : ∀ (pre : List UInt8) (b : UInt8), (∀ c ∈ pre, 128 ≤ c.toNat) → b.toNat < 128 → form (pre ++ [b]) = true
  | [], b, _, hb => by simpa [form] using hb
  | [c], b, h, hb => by
    have := h c (by simp)
    simp [form, this, hb]
  | c :: d :: q, b, h, hb => by
    have h1 := h c (by simp)
    have ih := form_snoc (d :: q) b (fun x hx => h x (List.mem_cons_of_mem _ hx)) hb
    rw [List.cons_append, List.cons_append, form_cons]
    simp only [h1, decide_true, Bool.true_and]
    simpa using ih
theorem w64_128 {P : Nat} (h : P ≤ 128 ^ 7) : wrap64 ((P : Int) * 128) = ((P * 128 : Nat) : Int) := by
  rw [w64 (by omega) (by omega)]
  omega
/-! ### Texts -/
def tr (o : Option (List UInt8 × List UInt8)) : ByteArray × ByteArray × Bool :=
  match o with
  | some x => (B x.1, B x.2, true)
  | none => (⟨#[]⟩, ⟨#[]⟩, false)
theorem B_take (r : List UInt8) (n : Nat) : (B r).extract 0 n = B (r.take n) := L_inj (by rw [L_extract]; rfl)
theorem B_drop (r : List UInt8) (n : Nat) : (B r).extract n (B r).size = B (r.drop n) := L_inj (by
  rw [L_extract, L_B, L_B, B_size, List.take_of_length_le]
  rw [List.length_drop]
  omega)
theorem rawtext_ev (s : ByteArray) (hz : s.size ≤ 9223372036854775807) (most : Int) : Ev (fun k => wire_text.f k s most) (tr (getText (L s) most)) := by
  refine Ev.bind (getnum_ev s hz) (Ev.congr (f := fun _ => some (tr (getText (L s) most))) (fun k => ?_) (Ev.now _))
  unfold getText
  cases hg : getNum (L s) with
  | none => rfl
  | some x =>
    dsimp only
    rw [if_pos rfl, B_size]
    by_cases hc : x.1 ≤ x.2.length ∧ (x.1 : Int) ≤ most
    · rw [if_neg (by unfold mn; split <;> omega), if_pos (by omega), if_pos (by omega), if_pos hc, Int.toNat_natCast, B_take]
      rw [← B_size x.2, B_drop]
      rfl
    · rw [if_pos (by unfold mn; split <;> omega), if_neg hc]
      rfl
theorem text_ev (t : ByteArray) (h : t.size ≤ maxN) : Ev (fun k => wire_Text.f k t) (B (text (L t))) := by
  refine Ev.bind (num_ev (t.size : Int)) (Ev.congr (f := fun _ => some (B (text (L t)))) (fun k => ?_) (Ev.now _))
  rw [clampN_in (by omega) (by unfold maxN at h; omega), Int.toNat_natCast]
  have := numB_len8 h
  unfold maxN at h
  rw [if_pos (by rw [B_size]; omega)]
  conv => lhs; rw [← B_L t, B_append, B_size]
  rfl
/-! ### Checks -/
open Go.Proofs.Ytobkeakbahkglaa.CrcM (ofL more fold bstep rep bit1 notN le4)
theorem of_eq (s : ByteArray) (h : s.size ≤ 9223372036854775807) : crc_Of.f s = some (ofL (L s) : Int) := by
  unfold crc_Of.f crc_More.f
  rw [if_pos h]
  exact congrArg some (CrcL.goMore_nat (c := 0) (by omega) s)
theorem le4_str (c : Nat) : strOfNums [(c : Int) % 256, ((c : Int) / 256) % 256, ((c : Int) / 65536) % 256, ((c : Int) / 16777216) % 256] = B (le4 c) := by
  rw [strOf_B]
  have e1 : u8 ((c : Int) % 256) = UInt8.ofNat (c % 256) := by rw [show ((c : Int) % 256) = ((c % 256 : Nat) : Int) by omega, u8_nat]
  have e2 : u8 ((c : Int) / 256 % 256) = UInt8.ofNat (c / 256 % 256) := by rw [show ((c : Int) / 256 % 256) = ((c / 256 % 256 : Nat) : Int) by omega, u8_nat]
  have e3 : u8 ((c : Int) / 65536 % 256) = UInt8.ofNat (c / 65536 % 256) := by rw [show ((c : Int) / 65536 % 256) = ((c / 65536 % 256 : Nat) : Int) by omega, u8_nat]
  have e4 : u8 ((c : Int) / 16777216 % 256) = UInt8.ofNat (c / 16777216 % 256) := by rw [show ((c : Int) / 16777216 % 256) = ((c / 16777216 % 256 : Nat) : Int) by omega, u8_nat]
  rw [List.map_cons, List.map_cons, List.map_cons, List.map_cons, List.map_nil, e1, e2, e3, e4]
  rfl
theorem check_eq (s : ByteArray) (h : s.size ≤ 9223372036854775807) : wire_check.f s = some (B (le4 (ofL (L s)))) := by
  unfold wire_check.f
  rw [of_eq s h]
  exact congrArg some (le4_str _)
theorem frame_ev (t : ByteArray) (h : t.size ≤ maxN) : Ev (fun k => wire_Frame.f k t) (B (frame (L t))) := by
  refine Ev.bind (text_ev t h) (Ev.congr (f := fun _ => some (B (frame (L t)))) (fun k => ?_) (Ev.now _))
  have hl : (text (L t)).length ≤ 9223372036854770000 := by
    unfold text
    rw [List.length_append, ← size_L]
    have := numB_len8 h
    unfold maxN at h
    omega
  rw [check_eq _ (by rw [B_size]; omega)]
  simp only [Option.bind_some]
  rw [if_pos (by rw [B_size, B_size, le4_length]; omega), B_append]
  rfl
theorem getframe_ev (s : ByteArray) (hz : s.size ≤ 9223372036854775807) : Ev (fun k => wire_GetFrame.f k s) (tr (getFrame (L s))) := by
  refine Ev.bind (rawtext_ev s hz 5000) ⟨1, fun k hk => ?_⟩
  obtain ⟨k, rfl⟩ : ∃ j, k = j + 1 := ⟨k - 1, by omega⟩
  unfold getFrame
  cases hg : getText (L s) 5000 with
  | none => rfl
  | some x =>
    obtain ⟨h1, _, _⟩ := getText_some (t := x.1) (r := x.2) hg
    have hs : s.size = (text x.1).length + x.2.length := by rw [size_L, ← h1, List.length_append]
    rw [show tr (some x) = (B x.1, B x.2, true) from rfl]
    dsimp only
    rw [if_pos rfl, B_size]
    by_cases h4 : x.2.length < 4
    · rw [if_pos (by omega), if_neg (by omega)]
      rfl
    · have hn : wrap64 ((s.size : Int) - (x.2.length : Int)) = ((text x.1).length : Int) := by rw [w64 (by omega) (by omega)]; omega
      rw [if_neg (by omega), if_pos (by omega), if_pos (by omega), hn, if_pos (by omega), if_pos (by omega), Int.toNat_natCast]
      have hx : s.extract 0 (text x.1).length = B (text x.1) := L_inj (by rw [L_extract, ← h1]; simp)
      rw [hx, check_eq _ (by rw [B_size]; omega)]
      simp only [Option.bind_some]
      rw [toList_L, toList_L, L_B, L_B, B_take, L_B]
      simp only [wire_GetFrame.j0]
      by_cases hc : x.2.take 4 = le4 (ofL (text x.1))
      · have : (x.2.take 4 != le4 (ofL (text x.1))) = false := by rw [hc]; simp
        rw [this, if_neg (by decide), if_pos (by rw [B_size]; omega), if_pos ⟨by omega, hc⟩, B_drop]
        rfl
      · have : (x.2.take 4 != le4 (ofL (text x.1))) = true := by simpa using hc
        rw [this, if_pos rfl, if_neg (fun h => hc h.2)]
        rfl

/-! ### The reference's check, and frames -/
end Go.Proofs.Ytobkeakbahkglaa.WireP
