/- What the printed functions of crc's reference come to, plainly; more on CRC-32. -/
import Derived.Test.YtkejhcpaklefjaaFn1
import Derived.Test.YtkejhcpaklefjaaExtCrc1
import Derived.Test.YtkejhcpaklefjaaCrcL
namespace Go.Proofs.Ytkejhcpaklefjaa.CrcP
open Go.RowKit Go.Proofs.Ytkejhcpaklefjaa.Fn Go.Proofs.YtkejhcpaklefjaaW.PrintWords Go.Proofs.YtkejhcpaklefjaaW.PrintLast Go.Proofs.YtkejhcpaklefjaaW.PrintMore Go.Proofs.Ytkejhcpaklefjaa.CrcM
set_option linter.unusedVariables false

/-! ### Bytes -/
abbrev L (s : ByteArray) : List UInt8 := s.data.toList
def B (l : List UInt8) : ByteArray := ⟨l.toArray⟩
@[simp] theorem L_B (l : List UInt8) : L (B l) = l := rfl
@[simp] theorem B_L (s : ByteArray) : B (L s) = s := rfl
theorem L_inj {s t : ByteArray} (h : L s = L t) : s = t := by rw [← B_L s, ← B_L t, h]
theorem size_L (s : ByteArray) : s.size = (L s).length := by
  show s.data.size = _
  rw [Array.length_toList]
theorem L_append (s t : ByteArray) : L (s ++ t) = L s ++ L t := by simp [L]
theorem L_extract (s : ByteArray) (a b : Nat) : L (s.extract a b) = ((L s).drop a).take (b - a) := by
  simp [L, List.extract_eq_take_drop]
theorem L_empty : L ⟨#[]⟩ = [] := rfl

def u8 (n : Int) : UInt8 := UInt8.ofNat n.toNat
theorem strOf_B (xs : List Int) : strOfNums xs = B (xs.map u8) := rfl
theorem B_append (p q : List UInt8) : B p ++ B q = B (p ++ q) := L_inj (by rw [L_append]; rfl)
theorem B_size (p : List UInt8) : (B p).size = p.length := by rw [size_L, L_B]
theorem bt_get {s : ByteArray} {i : Nat} {l : List UInt8} {b : UInt8} {pre : List UInt8} (hs : L s = pre ++ b :: l) (hi : pre.length = i) : bt s (i : Int) = (b.toNat : Int) := by
  have hlt : i < s.size := by rw [size_L, hs]; simp; omega
  unfold bt
  rw [dif_pos (by simpa using hlt)]
  have h2 : s[i]'hlt = (L s)[i]'(by rw [← size_L]; exact hlt) := rfl
  simp only [Int.toNat_natCast]
  rw [h2]
  congr 2
  simp only [hs]
  rw [List.getElem_append_right (by omega)]
  simp [hi]
theorem w64 {n : Int} (h0 : -9223372036854775808 ≤ n) (h1 : n ≤ 9223372036854775807) : wrap64 n = n := by unfold wrap64; omega
theorem u8_nat (m : Nat) : u8 (m : Int) = UInt8.ofNat m := by simp [u8]
theorem of_eq (s : ByteArray) (h : s.size ≤ 9223372036854775807) : crc_Of.f s = some (ofL (L s) : Int) := by
  unfold crc_Of.f crc_More.f
  rw [if_pos h]
  exact congrArg some (CrcL.goMore_nat (c := 0) (by omega) s)
theorem le4_str (c : Nat) : strOfNums [(c : Int) % 256, ((c : Int) / 256) % 256, ((c : Int) / 65536) % 256, ((c : Int) / 16777216) % 256] = B (le4 c) := by
  rw [strOf_B]
  have e1 : u8 ((c : Int) % 256) = UInt8.ofNat (c % 256) := by rw [show ((c : Int) % 256) = ((c % 256 : Nat) : Int) by omega, u8_nat]
  have e2 : u8 ((c : Int) / 256 % 256) = UInt8.ofNat (c / 256 % 256) := by rw [show ((c : Int) / 256 % 256) = ((c / 256 % 256 : Nat) : Int) by omega, u8_nat]
  have e3 : u8 ((c : Int) / 65536 % 256) = UInt8.ofNat (c / 65536 % 256) := by rw [show ((c : Int) / 65536 % 256) = ((c / 65536 % 256 : Nat) : Int) by omega, u8_nat]
  have e4 : u8 ((c : Int) / 16777216 % 256) = UInt8.ofNat (c / 16777216 % 256) := by rw [show ((c : Int) / 16777216 % 256) = ((c / 16777216 % 256 : Nat) : Int) by omega, u8_nat]
  rw [List.map_cons, List.map_cons, List.map_cons, List.map_cons, List.map_nil, e1, e2, e3, e4]
  rfl
theorem refstep_l0 : ∀ (j : Nat) (c k : Nat), c < 2 ^ 32 → j ≤ 8 → j < k → cenotaphref01_Step.l0 k (c : Int) ((8 - j : Nat) : Int) = some (rep j c : Int)
  | 0, c, k, hc, hj, hk => by
    obtain ⟨k, rfl⟩ : ∃ m, k = m + 1 := ⟨k - 1, by omega⟩
    simp only [cenotaphref01_Step.l0]
    rw [if_neg (by omega)]
    rfl
  | j + 1, c, k, hc, hj, hk => by
    obtain ⟨k, rfl⟩ : ∃ m, k = m + 1 := ⟨k - 1, by omega⟩
    have ih := refstep_l0 j (bit1 c) k (CrcM.bit1_lt hc) (by omega) (by omega)
    have hr : ∀ i, rep i (bit1 c) = rep (i + 1) c := by
      intro i
      induction i with
      | zero => rfl
      | succ i h => rw [rep, h]; rfl
    rw [hr] at ih
    have e1 : wrap64 (((8 - (j + 1) : Nat) : Int) + 1) = ((8 - j : Nat) : Int) := by rw [w64 (by omega) (by omega)]; omega
    have e2 : Int.tdiv (c : Int) 2 % 4294967296 = ((c / 2 : Nat) : Int) := by rw [Int.tdiv_eq_ediv_of_nonneg (by omega)]; omega
    have e3 : Int.tmod (c : Int) 2 = ((c % 2 : Nat) : Int) := by rw [Int.tmod_eq_emod_of_nonneg (by omega)]; omega
    simp only [cenotaphref01_Step.l0]
    rw [if_pos (by omega), e1, e2, e3]
    by_cases ho : c % 2 = 1
    · rw [if_pos (by omega)]
      have e4 : Go.bits .xor .u32 ((c / 2 : Nat) : Int) 3988292384 = (bit1 c : Int) := by
        have := u32_xor_nat (c / 2) CrcM.poly (by omega) (by decide)
        unfold bit1
        rw [if_pos ho]
        exact this
      rw [e4]
      exact ih
    · rw [if_neg (by omega)]
      have e4 : ((c / 2 : Nat) : Int) = (bit1 c : Int) := by
        unfold bit1
        rw [if_neg ho, Nat.xor_zero]
      rw [e4]
      exact ih
theorem refstep_eq (c b k : Nat) (hc : c < 2 ^ 32) (hb : b < 256) (hk : 8 < k) : cenotaphref01_Step.f k (c : Int) (b : Int) = some (bstep c b : Int) := by
  unfold cenotaphref01_Step.f
  have e1 : Go.bits .xor .u32 (c : Int) ((b : Int) % 4294967296) = ((c ^^^ b : Nat) : Int) := by
    rw [show (b : Int) % 4294967296 = (b : Int) by omega]
    exact u32_xor_nat c b (by omega) (by omega)
  rw [e1]
  exact refstep_l0 8 (c ^^^ b) k (Nat.xor_lt_two_pow hc (by omega)) (by omega) hk
theorem refmore_l0 (s : ByteArray) (hz : s.size ≤ 9223372036854775807) : ∀ (l pre : List UInt8) (c k : Nat), L s = pre ++ l → c < 2 ^ 32 → l.length + 9 < k →
    cenotaphref01_More.l0 k (c : Int) s (pre.length : Int) = some (notN (fold c l) : Int)
  | [], pre, c, k, hs, hc, hk => by
    obtain ⟨k, rfl⟩ : ∃ m, k = m + 1 := ⟨k - 1, by omega⟩
    simp only [cenotaphref01_More.l0]
    have : s.size = pre.length := by rw [size_L, hs]; simp
    rw [if_neg (by omega)]
    have e : (4294967295 - (c : Int)) % 4294967296 = (notN c : Int) := by unfold notN; omega
    rw [e]
    rfl
  | b :: l, pre, c, k, hs, hc, hk => by
    obtain ⟨k, rfl⟩ : ∃ m, k = m + 1 := ⟨k - 1, by omega⟩
    have hsz : pre.length < s.size := by rw [size_L, hs]; simp
    have e1 : wrap64 ((pre.length : Int) + 1) = (((pre ++ [b]).length : Nat) : Int) := by rw [w64 (by omega) (by omega)]; simp
    simp only [List.length_cons] at hk
    simp only [cenotaphref01_More.l0]
    rw [if_pos (by omega), if_pos (by omega), bt_get hs rfl, refstep_eq c b.toNat k hc b.toNat_lt (by omega), e1]
    exact refmore_l0 s hz l (pre ++ [b]) (bstep c b.toNat) k (by rw [hs]; simp) (CrcM.bstep_lt hc b.toNat_lt) (by omega)
theorem refof_ev (s : ByteArray) (hz : s.size ≤ 9223372036854775807) : Ev (fun k => cenotaphref01_Of.f k s) (ofL (L s) : Int) := by
  refine ⟨s.size + 10, fun k hk => ?_⟩
  show cenotaphref01_Of.f k s = _
  unfold cenotaphref01_Of.f cenotaphref01_More.f
  have h := refmore_l0 s hz (L s) [] (notN 0) k rfl (CrcM.notN_lt 0) (by rw [← size_L]; omega)
  have h2 : cenotaphref01_More.l0 k ((4294967295 - 0) % 4294967296) s 0 = some (notN (fold (notN 0) (L s)) : Int) := h
  rw [h2]
  rfl
theorem refmore_ev (c : Nat) (hc : c < 2 ^ 32) (s : ByteArray) (hz : s.size ≤ 9223372036854775807) : Ev (fun k => cenotaphref01_More.f k (c : Int) s) (more c (L s) : Int) := by
  refine ⟨s.size + 10, fun k hk => ?_⟩
  show cenotaphref01_More.f k (c : Int) s = _
  unfold cenotaphref01_More.f
  have h := refmore_l0 s hz (L s) [] (notN c) k rfl (CrcM.notN_lt c) (by rw [← size_L]; omega)
  have e : (4294967295 - (c : Int)) % 4294967296 = (notN c : Int) := by unfold notN; omega
  rw [e]
  exact h
theorem more_eq (c : Nat) (hc : c < 2 ^ 32) (s : ByteArray) (h : s.size ≤ 9223372036854775807) : crc_More.f (c : Int) s = some (more c (L s) : Int) := by
  unfold crc_More.f
  rw [if_pos h]
  exact congrArg some (CrcL.goMore_nat hc s)
theorem step_eq (c b : Nat) (hc : c < 2 ^ 32) (hb : b < 256) : crc_Step.f (c : Int) (b : Int) = some (bstep c b : Int) := by
  unfold crc_Step.f
  exact congrArg some (CrcL.goStep_nat hc hb)
theorem wf_u32 {a : Int} (h : (Lit.int .u32 a).wf = true) : ∃ n : Nat, a = (n : Int) ∧ n < 2 ^ 32 := by
  simp only [Lit.wf, Bool.and_eq_true, decide_eq_true_eq] at h
  have h1 : (0 : Int) ≤ a := h.1
  have h2 : a ≤ 4294967295 := h.2
  exact ⟨a.toNat, by omega, by omega⟩
theorem wf_u8 {a : Int} (h : (Lit.int .u8 a).wf = true) : ∃ n : Nat, a = (n : Int) ∧ n < 256 := by
  simp only [Lit.wf, Bool.and_eq_true, decide_eq_true_eq] at h
  have h1 : (0 : Int) ≤ a := h.1
  have h2 : a ≤ 255 := h.2
  exact ⟨a.toNat, by omega, by omega⟩

/-! ### More on CRC-32 -/
theorem notN_xor {c : Nat} (h : c < 2 ^ 32) : notN c = c ^^^ 4294967295 := by
  unfold notN
  apply Nat.eq_of_testBit_eq
  intro i
  have h5 := Nat.testBit_two_pow_sub_succ (x := c) (n := 32) (by omega) i
  rw [show 2 ^ 32 - (c + 1) = 4294967295 - c by omega] at h5
  rw [h5, Nat.testBit_xor, show (4294967295 : Nat) = 2 ^ 32 - 1 from rfl, Nat.testBit_two_pow_sub_one]
  by_cases hi : i < 32
  · simp [hi]
  · have : c.testBit i = false := Nat.testBit_lt_two_pow (Nat.lt_of_lt_of_le h (Nat.pow_le_pow_right (by omega) (by omega)))
    simp [hi, this]
def xorL : List UInt8 → List UInt8 → List UInt8
  | a :: p, b :: q => (a ^^^ b) :: xorL p q
  | _, _ => []
theorem bstep_xor (c d x y : Nat) : bstep (c ^^^ d) (x ^^^ y) = bstep c x ^^^ bstep d y := by
  unfold bstep
  rw [← rep_xor]
  congr 1
  rw [Nat.xor_assoc, Nat.xor_assoc, ← Nat.xor_assoc d, ← Nat.xor_assoc x, Nat.xor_comm d x]
theorem fold_xor : ∀ (p q : List UInt8) (c d : Nat), p.length = q.length → fold (c ^^^ d) (xorL p q) = fold c p ^^^ fold d q
  | [], [], _, _, _ => rfl
  | a :: p, b :: q, c, d, h => by
    have := fold_xor p q (bstep c a.toNat) (bstep d b.toNat) (by simpa using h)
    simp only [xorL, fold, UInt8.toNat_xor]
    rw [bstep_xor]
    exact this
theorem xorL_zero : ∀ p : List UInt8, xorL p (List.replicate p.length 0) = p
  | [] => rfl
  | a :: p => by simp [xorL, xorL_zero p, List.replicate_succ]
theorem xorL_length : ∀ p q : List UInt8, p.length = q.length → (xorL p q).length = p.length
  | [], [], _ => rfl
  | _ :: p, _ :: q, h => by simp [xorL, xorL_length p q (by simpa using h)]
/-- Checks are linear. -/
theorem ofL_xor (p q : List UInt8) (h : p.length = q.length) : ofL (xorL p q) = ofL p ^^^ ofL q ^^^ ofL (List.replicate p.length 0) := by
  have h0 : notN 0 < 2 ^ 32 := notN_lt 0
  have hn : notN 0 = 4294967295 := rfl
  have h1 := fold_xor p q (notN 0) (notN 0) h
  have h2 := fold_xor (xorL p q) (List.replicate (xorL p q).length 0) (notN 0 ^^^ notN 0) (notN 0) (by simp)
  rw [xorL_zero, Nat.xor_self, Nat.zero_xor] at h2
  rw [Nat.xor_self] at h1
  rw [h1, xorL_length p q h] at h2
  unfold ofL more
  rw [h2, notN_xor (fold_lt p h0), notN_xor (fold_lt q h0), notN_xor (fold_lt _ h0), notN_xor (Nat.xor_lt_two_pow (Nat.xor_lt_two_pow (fold_lt p h0) (fold_lt q h0)) (fold_lt _ h0))]
  generalize fold (notN 0) p = x
  generalize fold (notN 0) q = y
  generalize fold (notN 0) (List.replicate p.length 0) = z
  apply Nat.eq_of_testBit_eq
  intro i
  simp only [Nat.testBit_xor]
  cases x.testBit i <;> cases y.testBit i <;> cases z.testBit i <;> cases Nat.testBit 4294967295 i <;> rfl
theorem rep_add (i : Nat) : ∀ (j c : Nat), rep i (rep j c) = rep (i + j) c
  | 0, c => rfl
  | j + 1, c => by
    have h : ∀ i c, rep i (bit1 c) = rep (i + 1) c := by
      intro i c
      induction i with
      | zero => rfl
      | succ i ih => rw [rep, ih]; rfl
    have h2 : ∀ j c, rep (j + 1) c = rep j (bit1 c) := fun j c => (h j c).symm
    rw [h2, rep_add i j, h, Nat.add_assoc]
theorem split8 (d k : Nat) : d = (d % 2 ^ k) ^^^ (2 ^ k * (d / 2 ^ k)) := by
  apply Nat.eq_of_testBit_eq
  intro i
  rw [Nat.testBit_xor, Nat.testBit_mod_two_pow, Nat.testBit_two_pow_mul, Nat.testBit_div_two_pow]
  by_cases h : i < k
  · simp [h, show ¬ k ≤ i by omega]
  · simp [h, show k ≤ i by omega]
theorem rep_in (j c y : Nat) : rep j c ^^^ y = rep j (c ^^^ 2 ^ j * y) := by rw [rep_xor, rep_shift]
theorem mul_xor (k x y : Nat) : 2 ^ k * x ^^^ 2 ^ k * y = 2 ^ k * (x ^^^ y) := by
  apply Nat.eq_of_testBit_eq
  intro i
  simp only [Nat.testBit_xor, Nat.testBit_two_pow_mul]
  by_cases h : k ≤ i <;> simp [h]
/-- Four bytes at once. -/
theorem fold_le4 (c d : Nat) (hd : d < 2 ^ 32) : fold c (le4 d) = rep 32 (c ^^^ d) := by
  have t : ∀ a : Nat, a < 256 → (UInt8.ofNat a).toNat = a := fun a ha => by simp [Nat.mod_eq_of_lt ha]
  have e : d = (d % 256) ^^^ (2 ^ 8 * (d / 256 % 256) ^^^ (2 ^ 16 * (d / 65536 % 256) ^^^ 2 ^ 24 * (d / 16777216 % 256))) := by
    have h1 := split8 d 8
    have h2 := split8 (d / 2 ^ 8) 8
    have h3 := split8 (d / 2 ^ 16) 8
    have e2 : d / 2 ^ 8 / 2 ^ 8 = d / 2 ^ 16 := by omega
    have e3 : d / 2 ^ 16 / 2 ^ 8 = d / 16777216 % 256 := by omega
    rw [e2] at h2
    rw [e3] at h3
    have g : ∀ x1 x2 x3 : Nat, 2 ^ 8 * (x1 ^^^ 2 ^ 8 * (x2 ^^^ 2 ^ 8 * x3)) = 2 ^ 8 * x1 ^^^ (2 ^ 16 * x2 ^^^ 2 ^ 24 * x3) := by
      intro x1 x2 x3
      rw [← mul_xor 8 x2 (2 ^ 8 * x3), ← mul_xor 8 x1, ← mul_xor 8 (2 ^ 8 * x2), show (2 : Nat) ^ 8 * (2 ^ 8 * x2) = 2 ^ 16 * x2 by omega, show (2 : Nat) ^ 8 * (2 ^ 8 * (2 ^ 8 * x3)) = 2 ^ 24 * x3 by omega]
    conv => lhs; rw [h1, h2, h3]
    rw [g]
  have r : ∀ b0 b1 b2 b3 : Nat, rep 8 (rep 8 (rep 8 (rep 8 (c ^^^ b0) ^^^ b1) ^^^ b2) ^^^ b3) = rep 32 (c ^^^ (b0 ^^^ (2 ^ 8 * b1 ^^^ (2 ^ 16 * b2 ^^^ 2 ^ 24 * b3)))) := by
    intro b0 b1 b2 b3
    rw [rep_in 8 (c ^^^ b0) b1, rep_add 8 8, rep_in (8 + 8) _ b2, rep_add 8 (8 + 8), rep_in (8 + (8 + 8)) _ b3, rep_add 8 (8 + (8 + 8))]
    simp only [Nat.xor_assoc]
  unfold le4
  simp only [fold, bstep, t _ (Nat.mod_lt _ (by omega))]
  rw [r, ← e]
theorem behind (l : List UInt8) : ofL (l ++ le4 (ofL l)) = 558161692 := by
  have hf := fold_lt l (notN_lt 0)
  have e : ofL l = fold (notN 0) l ^^^ 4294967295 := notN_xor hf
  have h : fold (notN 0) l ^^^ (fold (notN 0) l ^^^ 4294967295) = 4294967295 := by rw [← Nat.xor_assoc, Nat.xor_self, Nat.zero_xor]
  unfold ofL more at e ⊢
  rw [fold_append, fold_le4 _ _ (notN_lt _), e, h]
  decide +kernel
end Go.Proofs.Ytkejhcpaklefjaa.CrcP
