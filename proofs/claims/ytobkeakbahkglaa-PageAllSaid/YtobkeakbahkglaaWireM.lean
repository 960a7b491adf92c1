/- Numbers as bytes, plainly: seven bits each, the lowest first. -/
import Derived.Test.YtobkeakbahkglaaCrcM
namespace Go.Proofs.Ytobkeakbahkglaa.WireM

/-! ### Bytes -/
abbrev L (s : ByteArray) : List UInt8 := s.data.toList
def B (l : List UInt8) : ByteArray := ⟨l.toArray⟩
@[simp] theorem L_B (l : List UInt8) : L (B l) = l := rfl
@[simp] theorem B_L (s : ByteArray) : B (L s) = s := rfl
theorem L_inj {s t : ByteArray} (h : L s = L t) : s = t := by rw [← B_L s, ← B_L t, h]
theorem size_L (s : ByteArray) : s.size = (L s).length := by
  show s.data.size = _
  rw [Array.length_toList]
theorem L_append (s t : ByteArray) : L (s ++ t) = L s ++ L t := by simp [L]
theorem L_extract (s : ByteArray) (a b : Nat) : L (s.extract a b) = ((L s).drop a).take (b - a) := by
  simp [L, List.extract_eq_take_drop]
theorem L_empty : L ⟨#[]⟩ = [] := rfl

/-! ### Numbers -/
def numB (n : Nat) : List UInt8 := if n < 128 then [UInt8.ofNat n] else UInt8.ofNat (n % 128 + 128) :: numB (n / 128)
termination_by n
decreasing_by omega
theorem numB_lt {n : Nat} (h : n < 128) : numB n = [UInt8.ofNat n] := by rw [numB, if_pos h]
theorem numB_ge {n : Nat} (h : ¬ n < 128) : numB n = UInt8.ofNat (n % 128 + 128) :: numB (n / 128) := by rw [numB, if_neg h]
def val : List UInt8 → Nat
  | [] => 0
  | b :: r => b.toNat % 128 + 128 * val r
theorem val_append : ∀ p q : List UInt8, val (p ++ q) = val p + 128 ^ p.length * val q
  | [], q => by simp [val]
  | b :: p, q => by
    simp only [List.cons_append, val, val_append p q, List.length_cons, Nat.pow_succ]
    rw [Nat.mul_add, Nat.add_assoc]
    congr 2
    rw [← Nat.mul_assoc, Nat.mul_comm 128]
theorem val_lt : ∀ p : List UInt8, val p < 128 ^ p.length
  | [] => by simp [val]
  | b :: p => by
    have := val_lt p
    have h2 : b.toNat % 128 < 128 := Nat.mod_lt _ (by omega)
    simp only [val, List.length_cons, Nat.pow_succ]
    omega
/-- The bytes up to the first that is below 128, and what is behind it. -/
def split : Nat → List UInt8 → Option (List UInt8 × List UInt8)
  | 0, _ => none
  | _ + 1, [] => none
  | f + 1, b :: r => if b.toNat < 128 then some ([b], r) else (split f r).map fun x => (b :: x.1, x.2)
theorem split_some : ∀ {f : Nat} {l p r : List UInt8}, split f l = some (p, r) → l = p ++ r ∧ p.length ≤ f ∧ p ≠ []
  | 0, _, _, _, h => by simp [split] at h
  | _ + 1, [], _, _, h => by simp [split] at h
  | f + 1, b :: l, p, r, h => by
    unfold split at h
    split at h
    · simp only [Option.some.injEq, Prod.mk.injEq] at h
      obtain ⟨rfl, rfl⟩ := h
      simp
    · obtain ⟨⟨p', r'⟩, h1, h2⟩ := Option.map_eq_some_iff.1 h
      simp only [Prod.mk.injEq] at h2
      obtain ⟨rfl, rfl⟩ := h2
      obtain ⟨rfl, hl, _⟩ := split_some h1
      simp
      exact hl
/-- Is it as short as it can be? -/
def short : List UInt8 → Bool
  | [] => false
  | [_] => true
  | [_, c] => decide (0 < c.toNat)
  | _ :: r => short r
theorem short_cons {b c : UInt8} {r : List UInt8} : short (b :: c :: r) = if r = [] then decide (0 < c.toNat) else short (c :: r) := by
  cases r with
  | nil => simp [short]
  | cons d r => simp [short]
/-- The form that a number's bytes have: all but the last one with 128. -/
def form : List UInt8 → Bool
  | [] => false
  | [b] => decide (b.toNat < 128)
  | b :: r => decide (128 ≤ b.toNat) && form r
theorem form_cons {b c : UInt8} {r : List UInt8} : form (b :: c :: r) = (decide (128 ≤ b.toNat) && form (c :: r)) := rfl
theorem split_form : ∀ {f : Nat} {l p r : List UInt8}, split f l = some (p, r) → form p = true
  | 0, _, _, _, h => by simp [split] at h
  | _ + 1, [], _, _, h => by simp [split] at h
  | f + 1, b :: l, p, r, h => by
    unfold split at h
    split at h
    · rename_i hb
      simp only [Option.some.injEq, Prod.mk.injEq] at h
      obtain ⟨rfl, rfl⟩ := h
      simpa [form] using hb
    · rename_i hb
      obtain ⟨⟨p', r'⟩, h1, h2⟩ := Option.map_eq_some_iff.1 h
      simp only [Prod.mk.injEq] at h2
      obtain ⟨rfl, rfl⟩ := h2
      have hf := split_form h1
      cases p' with
      | nil => simp [form] at hf
      | cons c q =>
        rw [form_cons, hf]
        simp
        omega
theorem split_of_form : ∀ {p : List UInt8} {f : Nat} {r : List UInt8}, form p = true → p.length ≤ f → split f (p ++ r) = some (p, r)
  | [], _, _, h, _ => by simp [form] at h
  | [b], f + 1, r, h, _ => by
    simp [form] at h
    simp [split, h]
  | b :: c :: q, f + 1, r, h, hl => by
    rw [form_cons] at h
    simp only [Bool.and_eq_true, decide_eq_true_eq] at h
    have ih := split_of_form (f := f) (r := r) h.2 (by simpa using hl)
    rw [List.cons_append, split, if_neg (by omega), ih]
    rfl
  | b :: q, 0, _, _, hl => by simp at hl
theorem numB_form (n : Nat) : form (numB n) = true ∧ short (numB n) = true ∧ val (numB n) = n := by
  induction n using Nat.strongRecOn with
  | _ n ih =>
    by_cases h : n < 128
    · rw [numB_lt h]
      have : (UInt8.ofNat n).toNat = n := by simp; omega
      simp [form, short, val, this, h]
    · rw [numB_ge h]
      obtain ⟨h1, h2, h3⟩ := ih (n / 128) (by omega)
      have e : (UInt8.ofNat (n % 128 + 128)).toNat = n % 128 + 128 := by simp; omega
      cases hq : numB (n / 128) with
      | nil => rw [hq] at h1; simp [form] at h1
      | cons c q =>
        rw [hq] at h1 h2 h3
        refine ⟨?_, ?_, ?_⟩
        · rw [form_cons, h1, e]; simp
        · rw [short_cons]
          split
          · rename_i hr
            subst hr
            simp only [val, Nat.mul_zero, Nat.add_zero] at h3
            simp
            omega
          · exact h2
        · rw [val, h3, e]; omega
theorem val_pos : ∀ {p : List UInt8}, form p = true → short p = true → 2 ≤ p.length → 1 ≤ val p
  | [], _, _, h => by simp at h
  | [_], _, _, h => by simp at h
  | [b, c], hf, hs, _ => by
    simp [form] at hf
    simp [short] at hs
    simp [val]
    omega
  | b :: c :: d :: q, hf, hs, _ => by
    rw [form_cons] at hf
    simp only [Bool.and_eq_true] at hf
    have hs2 : short (c :: d :: q) = true := by simpa [short] using hs
    have := val_pos hf.2 hs2 (by simp)
    rw [val]
    omega
/-- A number is read from its own bytes alone. -/
theorem numB_val : ∀ {p : List UInt8}, form p = true → short p = true → numB (val p) = p
  | [], hf, _ => by simp [form] at hf
  | [b], hf, _ => by
    simp [form] at hf
    have e : val [b] = b.toNat := by simp [val]; omega
    rw [e, numB_lt hf]
    simp
  | b :: c :: q, hf, hs => by
    rw [form_cons] at hf
    simp only [Bool.and_eq_true, decide_eq_true_eq] at hf
    have hs2 : short (c :: q) = true := by
      rw [short_cons] at hs
      split at hs
      · rename_i hr; subst hr; rfl
      · exact hs
    have ih := numB_val hf.2 hs2
    have hp : 1 ≤ val (c :: q) := by
      cases q with
      | nil =>
        simp [short] at hs
        simp [form] at hf
        simp [val]
        omega
      | cons d q => exact val_pos hf.2 hs2 (by simp)
    have hb : b.toNat < 256 := b.toNat_lt
    have hge : ¬ val (b :: c :: q) < 128 := by rw [val]; omega
    rw [numB_ge hge]
    have e1 : val (b :: c :: q) / 128 = val (c :: q) := by rw [val]; omega
    have e2 : val (b :: c :: q) % 128 + 128 = b.toNat := by rw [val]; omega
    rw [e1, e2, ih]
    simp
theorem short_iff {p : List UInt8} (hf : form p = true) : numB (val p) = p ↔ short p = true :=
  ⟨fun h => by rw [← h]; exact (numB_form _).2.1, numB_val hf⟩

/-! ### What bytes begin with -/
def maxN : Nat := 1125899906842624
def getNum (l : List UInt8) : Option (Nat × List UInt8) :=
  match split 8 l with
  | some x => if val x.1 ≤ maxN ∧ short x.1 = true then some (val x.1, x.2) else none
  | none => none
theorem numB_len (n : Nat) (k : Nat) (h : n < 128 ^ (k + 1)) : (numB n).length ≤ k + 1 := by
  induction k generalizing n with
  | zero => rw [numB_lt (by simpa using h)]; simp
  | succ k ih =>
    by_cases hn : n < 128
    · rw [numB_lt hn]; simp
    · rw [numB_ge hn, List.length_cons]
      have := ih (n / 128) (by rw [Nat.div_lt_iff_lt_mul (by omega)]; rw [Nat.pow_succ] at h; exact h)
      omega
theorem numB_len8 {n : Nat} (h : n ≤ maxN) : (numB n).length ≤ 8 := numB_len n 7 (by unfold maxN at h; omega)
/-- WHAT IS WRITTEN IS READ AGAIN. -/
theorem getNum_numB {n : Nat} (h : n ≤ maxN) (r : List UInt8) : getNum (numB n ++ r) = some (n, r) := by
  obtain ⟨h1, h2, h3⟩ := numB_form n
  unfold getNum
  rw [split_of_form h1 (numB_len8 h)]
  simp [h2, h3, h]
/-- AND NOTHING ELSE IS. -/
theorem getNum_some {l r : List UInt8} {n : Nat} (h : getNum l = some (n, r)) : numB n ++ r = l ∧ n ≤ maxN := by
  unfold getNum at h
  split at h
  · rename_i x hx
    split at h
    · rename_i hc
      simp only [Option.some.injEq, Prod.mk.injEq] at h
      obtain ⟨rfl, rfl⟩ := h
      obtain ⟨hl, _, _⟩ := split_some (p := x.1) (r := x.2) hx
      rw [numB_val (split_form (p := x.1) (r := x.2) hx) hc.2]
      exact ⟨hl.symm, hc.1⟩
    · cases h
  · cases h
def getText (l : List UInt8) (most : Int) : Option (List UInt8 × List UInt8) :=
  match getNum l with
  | some x => if x.1 ≤ x.2.length ∧ (x.1 : Int) ≤ most then some (x.2.take x.1, x.2.drop x.1) else none
  | none => none
def text (t : List UInt8) : List UInt8 := numB t.length ++ t
theorem getText_text (t r : List UInt8) (most : Int) (h : t.length ≤ maxN) (hm : (t.length : Int) ≤ most) : getText (text t ++ r) most = some (t, r) := by
  unfold getText text
  rw [List.append_assoc, getNum_numB h]
  simp [hm]
theorem getText_long (t r : List UInt8) (most : Int) (h : t.length ≤ maxN) (hm : most < (t.length : Int)) : getText (text t ++ r) most = none := by
  unfold getText text
  rw [List.append_assoc, getNum_numB h]
  simp
  omega
theorem getText_some {l t r : List UInt8} {most : Int} (h : getText l most = some (t, r)) : text t ++ r = l ∧ (t.length : Int) ≤ most ∧ t.length ≤ maxN := by
  unfold getText at h
  split at h
  · rename_i x hx
    split at h
    · rename_i hc
      simp only [Option.some.injEq, Prod.mk.injEq] at h
      obtain ⟨rfl, rfl⟩ := h
      obtain ⟨h1, h2⟩ := getNum_some (n := x.1) (r := x.2) hx
      have hl : (x.2.take x.1).length = x.1 := by rw [List.length_take]; omega
      refine ⟨?_, by rw [hl]; exact hc.2, by rw [hl]; exact h2⟩
      unfold text
      rw [hl, List.append_assoc, List.take_append_drop]
      exact h1
    · cases h
  · cases h
theorem text_ne_nil (t : List UInt8) : 1 ≤ (numB t.length).length := by
  have := (numB_form t.length).1
  cases h : numB t.length with
  | nil => rw [h] at this; simp [form] at this
  | cons b q => simp

/-! ### Frames -/
open Go.Proofs.Ytobkeakbahkglaa.CrcM (le4 ofL le4_inj ofL_lt ofL_byte)
def frame (t : List UInt8) : List UInt8 := text t ++ le4 (ofL (text t))
def getFrame (l : List UInt8) : Option (List UInt8 × List UInt8) :=
  match getText l 5000 with
  | some x => if 4 ≤ x.2.length ∧ x.2.take 4 = le4 (ofL (text x.1)) then some (x.1, x.2.drop 4) else none
  | none => none
theorem le4_length (c : Nat) : (le4 c).length = 4 := rfl
theorem getFrame_frame (t r : List UInt8) (h : t.length ≤ 5000) : getFrame (frame t ++ r) = some (t, r) := by
  unfold getFrame frame
  rw [List.append_assoc, getText_text t _ 5000 (by unfold maxN; omega) (by omega)]
  have h1 : (le4 (ofL (text t)) ++ r).take 4 = le4 (ofL (text t)) := by rw [List.take_append_of_le_length (by rw [le4_length]; omega), List.take_of_length_le (by rw [le4_length]; omega)]
  have h2 : (le4 (ofL (text t)) ++ r).drop 4 = r := by rw [List.drop_append_of_le_length (by rw [le4_length]; omega), List.drop_of_length_le (by rw [le4_length]; omega), List.nil_append]
  dsimp only
  rw [h1, h2, if_pos ⟨by rw [List.length_append, le4_length]; omega, rfl⟩]
theorem getFrame_some {l t r : List UInt8} (h : getFrame l = some (t, r)) : frame t ++ r = l ∧ t.length ≤ 5000 := by
  unfold getFrame at h
  split at h
  · rename_i x hx
    split at h
    · rename_i hc
      simp only [Option.some.injEq, Prod.mk.injEq] at h
      obtain ⟨rfl, rfl⟩ := h
      obtain ⟨h1, h2, _⟩ := getText_some (t := x.1) (r := x.2) hx
      refine ⟨?_, by omega⟩
      unfold frame
      rw [List.append_assoc, ← hc.2, List.take_append_drop]
      exact h1
    · cases h
  · cases h
end Go.Proofs.Ytobkeakbahkglaa.WireM
