/- CRC-32, plainly, over natural numbers: its steps are linear, and each is undone. -/
import Derived.Laws.BitsAllLaws
namespace Go.Proofs.Ytobkeakbahkglaa.CrcM

def poly : Nat := 3988292384
def bit1 (c : Nat) : Nat := c / 2 ^^^ (if c % 2 = 1 then poly else 0)
def rep : Nat → Nat → Nat
  | 0, c => c
  | j + 1, c => bit1 (rep j c)
def bstep (c b : Nat) : Nat := rep 8 (c ^^^ b)
def fold (c : Nat) : List UInt8 → Nat
  | [] => c
  | b :: r => fold (bstep c b.toNat) r
def notN (c : Nat) : Nat := 4294967295 - c
def more (c : Nat) (l : List UInt8) : Nat := notN (fold (notN c) l)
def ofL (l : List UInt8) : Nat := more 0 l

theorem fold_append : ∀ (p q : List UInt8) (c : Nat), fold c (p ++ q) = fold (fold c p) q
  | [], _, _ => rfl
  | b :: p, q, c => by simp only [List.cons_append, fold]; exact fold_append p q _
theorem notN_notN {c : Nat} (h : c < 4294967296) : notN (notN c) = c := by unfold notN; omega
theorem notN_inj {c d : Nat} (hc : c < 4294967296) (hd : d < 4294967296) (h : notN c = notN d) : c = d := by unfold notN at h; omega
theorem notN_lt (c : Nat) : notN c < 4294967296 := by unfold notN; omega

/-! ### Bounds -/
theorem poly_lt : poly < 2 ^ 32 := by decide
theorem bit1_lt {c : Nat} (h : c < 2 ^ 32) : bit1 c < 2 ^ 32 := by
  unfold bit1
  refine Nat.xor_lt_two_pow (by omega) ?_
  split
  · exact poly_lt
  · omega
theorem rep_lt {c : Nat} (h : c < 2 ^ 32) : ∀ j, rep j c < 2 ^ 32
  | 0 => h
  | j + 1 => bit1_lt (rep_lt h j)
theorem bstep_lt {c b : Nat} (h : c < 2 ^ 32) (hb : b < 256) : bstep c b < 2 ^ 32 := rep_lt (Nat.xor_lt_two_pow h (by omega)) 8
theorem fold_lt : ∀ (l : List UInt8) {c : Nat}, c < 2 ^ 32 → fold c l < 2 ^ 32
  | [], _, h => h
  | b :: r, _, h => fold_lt r (bstep_lt h b.toNat_lt)

/-! ### Linear -/
theorem half_xor (x y : Nat) : (x ^^^ y) / 2 = x / 2 ^^^ y / 2 := by
  apply Nat.eq_of_testBit_eq
  intro i
  rw [Nat.testBit_xor]
  simp only [Nat.testBit_div_two, Nat.testBit_xor]
theorem odd_xor (x y : Nat) : (x ^^^ y) % 2 = (x % 2 + y % 2) % 2 := by
  have h := Nat.testBit_xor x y 0
  simp only [Nat.testBit_zero] at h
  rcases Nat.mod_two_eq_zero_or_one x with hx | hx <;> rcases Nat.mod_two_eq_zero_or_one y with hy | hy <;> rcases Nat.mod_two_eq_zero_or_one (x ^^^ y) with hz | hz <;> rw [hx, hy, hz] at h <;> simp [hx, hy, hz] at h ⊢
theorem xor_right_cancel {a b c : Nat} (h : a ^^^ c = b ^^^ c) : a = b := by
  have := congrArg (· ^^^ c) h
  simpa [Nat.xor_assoc] using this
theorem xor_left_cancel {a b c : Nat} (h : c ^^^ a = c ^^^ b) : a = b := by
  rw [Nat.xor_comm c a, Nat.xor_comm c b] at h
  exact xor_right_cancel h
theorem bit1_xor (x y : Nat) : bit1 (x ^^^ y) = bit1 x ^^^ bit1 y := by
  unfold bit1
  rw [half_xor, odd_xor]
  rcases Nat.mod_two_eq_zero_or_one x with hx | hx <;> rcases Nat.mod_two_eq_zero_or_one y with hy | hy <;> simp only [hx, hy]
  · simp
  · simp [Nat.xor_assoc]
  · simp
    rw [Nat.xor_assoc, Nat.xor_comm (y / 2) poly, ← Nat.xor_assoc]
  · simp
    rw [Nat.xor_assoc, Nat.xor_comm poly (y / 2 ^^^ poly), Nat.xor_assoc (y / 2), Nat.xor_self, Nat.xor_zero]
theorem rep_xor (x y : Nat) : ∀ j, rep j (x ^^^ y) = rep j x ^^^ rep j y
  | 0 => rfl
  | j + 1 => by simp only [rep, rep_xor x y j, bit1_xor]
theorem bit1_double (m : Nat) : bit1 (2 * m) = m := by
  unfold bit1
  have h1 : 2 * m / 2 = m := by omega
  have h2 : ¬ (2 * m % 2 = 1) := by omega
  rw [h1, if_neg h2, Nat.xor_zero]
theorem rep_shift (m : Nat) : ∀ j, rep j (2 ^ j * m) = m
  | 0 => by simp [rep]
  | j + 1 => by
    have := rep_shift (2 * m) j
    rw [rep, show 2 ^ (j + 1) * m = 2 ^ j * (2 * m) by rw [Nat.pow_succ, Nat.mul_assoc], this, bit1_double]
/-- The table's way: the low byte alone is stepped. -/
theorem bstep_table (c b : Nat) : bstep c b = rep 8 (c % 256 ^^^ b) ^^^ c / 256 := by
  have hc : c = (c % 256) ^^^ (2 ^ 8 * (c / 256)) := by
    apply Nat.eq_of_testBit_eq
    intro i
    rw [Nat.testBit_xor, show (256 : Nat) = 2 ^ 8 from rfl, Nat.testBit_mod_two_pow, Nat.testBit_two_pow_mul, Nat.testBit_div_two_pow]
    by_cases h : i < 8
    · simp [h, show ¬ 8 ≤ i by omega]
    · simp [h, show 8 ≤ i by omega]
  unfold bstep
  conv => lhs; rw [hc, Nat.xor_assoc, Nat.xor_comm (2 ^ 8 * (c / 256)) b, ← Nat.xor_assoc, rep_xor, rep_shift]

/-! ### Each bstep is undone -/
theorem testBit31 {x : Nat} (h : x < 2 ^ 31) : x.testBit 31 = false := Nat.testBit_lt_two_pow h
theorem bit1_top {x : Nat} (h : x < 2 ^ 32) : (bit1 x).testBit 31 = decide (x % 2 = 1) := by
  unfold bit1
  rw [Nat.testBit_xor, testBit31 (by omega)]
  split
  · rename_i hx; simp [hx]; decide
  · rename_i hx; simp [hx]
theorem bit1_inj {x y : Nat} (hx : x < 2 ^ 32) (hy : y < 2 ^ 32) (h : bit1 x = bit1 y) : x = y := by
  have h1 := bit1_top hx
  rw [h, bit1_top hy] at h1
  have hp : x % 2 = y % 2 := by
    have : (x % 2 = 1) ↔ (y % 2 = 1) := by simpa using (decide_eq_decide.1 h1).symm
    omega
  have hh : x / 2 = y / 2 := by
    unfold bit1 at h
    rw [hp] at h
    exact xor_right_cancel h
  omega
theorem rep_inj {x y : Nat} (hx : x < 2 ^ 32) (hy : y < 2 ^ 32) : ∀ j, rep j x = rep j y → x = y
  | 0, h => h
  | j + 1, h => rep_inj hx hy j (bit1_inj (rep_lt hx j) (rep_lt hy j) h)
theorem bstep_inj {c d x y : Nat} (hc : c < 2 ^ 32) (hd : d < 2 ^ 32) (hx : x < 256) (hy : y < 256) (h : bstep c x = bstep d y) : c ^^^ x = d ^^^ y :=
  rep_inj (Nat.xor_lt_two_pow hc (by omega)) (Nat.xor_lt_two_pow hd (by omega)) 8 h
theorem fold_inj : ∀ (l : List UInt8) {c d : Nat}, c < 2 ^ 32 → d < 2 ^ 32 → fold c l = fold d l → c = d
  | [], _, _, _, _, h => h
  | b :: r, c, d, hc, hd, h => by
    have h1 := fold_inj r (bstep_lt hc b.toNat_lt) (bstep_lt hd b.toNat_lt) h
    exact xor_right_cancel (bstep_inj hc hd b.toNat_lt b.toNat_lt h1)
/-- ONE BYTE THAT IS ANOTHER ONE IS TOLD. -/
theorem ofL_byte (p q : List UInt8) {x y : UInt8} (h : x ≠ y) : ofL (p ++ x :: q) ≠ ofL (p ++ y :: q) := by
  intro e
  have h0 : notN 0 < 2 ^ 32 := notN_lt 0
  have hp := fold_lt p h0
  unfold ofL more at e
  rw [fold_append, fold_append] at e
  simp only [fold] at e
  have hs1 := bstep_lt hp x.toNat_lt
  have hs2 := bstep_lt hp y.toNat_lt
  have hl1 := fold_lt q hs1
  have hl2 := fold_lt q hs2
  have h1 := notN_inj hl1 hl2 e
  have h2 := bstep_inj hp hp x.toNat_lt y.toNat_lt (fold_inj q hs1 hs2 h1)
  exact h (UInt8.toNat_inj.1 (xor_left_cancel h2))
theorem more_lt (c : Nat) (l : List UInt8) : more c l < 2 ^ 32 := notN_lt _
theorem ofL_lt (l : List UInt8) : ofL l < 2 ^ 32 := more_lt 0 l
theorem more_append (c : Nat) (p q : List UInt8) : more c (p ++ q) = more (more c p) q := by
  unfold more
  rw [fold_append, notN_notN (fold_lt p (notN_lt c))]

/-! ### The check's bytes, the lowest first -/
def le4 (c : Nat) : List UInt8 := [UInt8.ofNat (c % 256), UInt8.ofNat (c / 256 % 256), UInt8.ofNat (c / 65536 % 256), UInt8.ofNat (c / 16777216 % 256)]
theorem le4_inj {c d : Nat} (hc : c < 2 ^ 32) (hd : d < 2 ^ 32) (h : le4 c = le4 d) : c = d := by
  unfold le4 at h
  simp only [List.cons.injEq, and_true] at h
  obtain ⟨h0, h1, h2, h3⟩ := h
  have t : ∀ a b : Nat, a < 256 → b < 256 → UInt8.ofNat a = UInt8.ofNat b → a = b := by
    intro a b ha hb e
    have := congrArg UInt8.toNat e
    simpa [Nat.mod_eq_of_lt ha, Nat.mod_eq_of_lt hb] using this
  have e0 := t _ _ (by omega) (by omega) h0
  have e1 := t _ _ (by omega) (by omega) h1
  have e2 := t _ _ (by omega) (by omega) h2
  have e3 := t _ _ (by omega) (by omega) h3
  omega
end Go.Proofs.Ytobkeakbahkglaa.CrcM
