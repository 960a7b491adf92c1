/- What the printed functions of the reference come to, plainly (the page seat). -/
import Derived.Test.YtobkeakbahkglaaPageM
import Derived.Test.YtobkeakbahkglaaFn5
import Derived.Test.YtobkeakbahkglaaFn6
import Derived.Test.YtobkeakbahkglaaFn7
import Derived.Test.YtobkeakbahkglaaFn8
import Derived.Test.YtobkeakbahkglaaFn9
set_option linter.unusedVariables false
namespace Go.Proofs.Ytobkeakbahkglaa.WireP
open Go.RowKit Go.Proofs.Ytobkeakbahkglaa.Fn Go.Proofs.YtobkeakbahkglaaW.PrintWords Go.Proofs.YtobkeakbahkglaaW.PrintLast Go.Proofs.YtobkeakbahkglaaW.PrintMore Go.Proofs.Ytobkeakbahkglaa.WireM
open Go.Proofs.Ytobkeakbahkglaa.CrcM (ofL more fold bstep rep bit1 notN le4)
theorem refnum_l0 (m : Nat) : ∀ (xs : List Int) (k : Nat), m < k → m ≤ maxN → xs.length + (numB m).length ≤ 140737488355328 → cenotaphref04_Num.l0 k (m : Int) xs = some (B (xs.map u8 ++ numB m)) := by
  induction m using Nat.strongRecOn with
  | _ m ih =>
    intro xs k hk hm hl
    unfold maxN at hm
    obtain ⟨k, rfl⟩ : ∃ j, k = j + 1 := ⟨k - 1, by omega⟩
    simp only [cenotaphref04_Num.l0]
    by_cases h : m < 128
    · rw [numB_lt h] at hl
      simp at hl
      rw [if_neg (by omega), if_pos (by omega), strOf_B, List.map_append, numB_lt h]
      have : u8 ((m : Int) % 256) = UInt8.ofNat m := by
        rw [show ((m : Int) % 256) = (m : Int) by omega, u8_nat]
      simp [this]
    · rw [numB_ge h] at hl
      simp at hl
      rw [if_pos (by omega), if_pos (by omega)]
      have e1 : wrap64 (Int.tdiv (m : Int) 128) = ((m / 128 : Nat) : Int) := by
        rw [Int.tdiv_eq_ediv_of_nonneg (by omega), w64 (by omega) (by omega)]
        omega
      have e2 : wrap64 (Int.tmod (m : Int) 128 + 128) % 256 = ((m % 128 + 128 : Nat) : Int) := by
        rw [Int.tmod_eq_emod_of_nonneg (by omega), w64 (by omega) (by omega)]
        omega
      rw [e1, e2, ih (m / 128) (by omega) _ k (by omega) (by unfold maxN; omega) (by rw [List.length_append]; simp; omega), numB_ge h, List.map_append, List.map_cons, u8_nat]
      simp
theorem refnum_ev (n : Int) : Ev (fun k => cenotaphref04_Num.f k n) (B (numB (clampN n))) := by
  refine ⟨clampN n + 1, fun k hk => ?_⟩
  show cenotaphref04_Num.f k n = _
  unfold cenotaphref04_Num.f
  rw [clampN_eq, refnum_l0 _ _ _ (by omega) (clampN_le n) (by have := numB_len8 (clampN_le n); simp; omega)]
  rfl

theorem ref_digit (pre : List UInt8) (b : UInt8) (h : pre.length < 8) : wrap64 ((val pre : Int) + wrap64 (Int.tmod (wrap64 (b.toNat : Int)) 128 * ((128 ^ pre.length : Nat) : Int))) = (val (pre ++ [b]) : Int) := by
  have hb : b.toNat < 256 := b.toNat_lt
  have hle : 128 ^ pre.length ≤ 128 ^ 7 := Nat.pow_le_pow_right (by omega) (by omega)
  have hlt : 128 ^ pre.length * (b.toNat % 128) ≤ 128 ^ 7 * 127 := Nat.mul_le_mul hle (by omega)
  have hv := val_lt pre
  have e1 : Int.tmod (wrap64 (b.toNat : Int)) 128 * ((128 ^ pre.length : Nat) : Int) = ((128 ^ pre.length * (b.toNat % 128) : Nat) : Int) := by
    rw [w64 (by omega) (by omega), Int.tmod_eq_emod_of_nonneg (by omega)]
    push_cast
    rw [Int.mul_comm]
  rw [e1, w64 (n := ((128 ^ pre.length * (b.toNat % 128) : Nat) : Int)) (by omega) (by omega), w64 (by omega) (by omega), val_snoc]
  omega
theorem ref_loop (s : ByteArray) (hz : s.size ≤ 9223372036854775807) : ∀ (f : Nat) (pre l : List UInt8) (k : Nat), L s = pre ++ l → pre.length + f = 8 → (∀ c ∈ pre, 128 ≤ c.toNat) → maxN + 100 + 2 * f < k →
    cenotaphref04_GetNum.l0 k s (val pre : Int) ((128 ^ pre.length : Nat) : Int) (pre.length : Int) = some (match split f l with
      | some x => if val (pre ++ x.1) ≤ maxN ∧ short (pre ++ x.1) = true then ((val (pre ++ x.1) : Int), B x.2, true) else (0, ⟨#[]⟩, false)
      | none => (0, ⟨#[]⟩, false)) := by
  intro f
  induction f with
  | zero =>
    intro pre l k hs hf _ hk
    obtain ⟨k, rfl⟩ : ∃ j, k = j + 2 := ⟨k - 2, by omega⟩
    simp only [cenotaphref04_GetNum.l0, cenotaphref04_GetNum.j1]
    have : decide ((pre.length : Int) < 8) = false := by simp; omega
    rw [this]
    simp [split]
  | succ f ih =>
    intro pre l k hs hf hp hk
    obtain ⟨k, rfl⟩ : ∃ j, k = j + 2 := ⟨k - 2, by omega⟩
    simp only [cenotaphref04_GetNum.l0]
    cases l with
    | nil =>
      have : s.size = pre.length := by rw [size_L, hs]; simp
      rw [if_neg (by omega)]
      simp [cenotaphref04_GetNum.j1, split]
    | cons b r =>
      have hsz : pre.length < s.size := by rw [size_L, hs]; simp
      have hbt : bt s (pre.length : Int) = (b.toNat : Int) := bt_get hs rfl
      have e1 : wrap64 ((pre.length : Int) + 1) = ((pre.length + 1 : Nat) : Int) := by rw [w64 (by omega) (by omega)]; omega
      have hd : decide ((pre.length : Int) < 8) = true := by simp; omega
      rw [if_pos (by omega)]
      simp only [cenotaphref04_GetNum.j1]
      rw [if_pos hd, if_pos (by omega), if_pos (by omega), hbt, ref_digit pre b (by omega), e1]
      by_cases hb : b.toNat < 128
      · have hx : s.extract (((pre.length + 1 : Nat) : Int).toNat) s.size = B r := by
          apply L_inj
          rw [L_extract, hs, L_B, Int.toNat_natCast, ← List.singleton_append, ← List.append_assoc, List.drop_append_of_le_length (by simp), List.drop_of_length_le (by simp), List.nil_append, List.take_of_length_le]
          rw [size_L, hs]
          simp
          omega
        have hy : L (s.extract 0 (((pre.length + 1 : Nat) : Int).toNat)) = pre ++ [b] := by
          rw [L_extract, hs, Int.toNat_natCast, List.drop_zero, Nat.sub_zero, ← List.singleton_append, ← List.append_assoc, List.take_append_of_le_length (by simp), List.take_of_length_le (by simp)]
        have hfm := form_snoc pre b hp hb
        rw [if_pos (by omega)]
        unfold split
        rw [if_pos hb]
        dsimp only
        by_cases hm : val (pre ++ [b]) ≤ maxN
        · have hn : cenotaphref04_Num.f k (val (pre ++ [b]) : Int) = some (B (numB (val (pre ++ [b])))) := by
            have hc := clampN_in (n := (val (pre ++ [b]) : Int)) (by omega) (by unfold maxN at hm; omega)
            unfold cenotaphref04_Num.f
            rw [clampN_eq, hc, Int.toNat_natCast, refnum_l0 _ _ _ (by omega) hm (by have := numB_len8 hm; simp; omega)]
            rfl
          rw [if_neg (by unfold maxN at hm; omega), hn]
          simp only [Option.bind_some]
          rw [if_pos (by omega), if_pos (by omega), toList_L, toList_L, L_B, hy, hx]
          by_cases hc : short (pre ++ [b]) = true
          · rw [if_pos ((short_iff hfm).2 hc), if_pos ⟨hm, hc⟩]
          · rw [if_neg (fun h => hc ((short_iff hfm).1 h)), if_neg (fun h => hc h.2)]
        · rw [if_pos (by unfold maxN at hm; omega), if_neg (fun h => hm h.1)]
      · rw [if_neg (by omega)]
        have e2 : wrap64 (((128 ^ pre.length : Nat) : Int) * 128) = ((128 ^ (pre ++ [b]).length : Nat) : Int) := by
          have hle : 128 ^ pre.length ≤ 128 ^ 7 := Nat.pow_le_pow_right (by omega) (by omega)
          rw [w64_128 hle, List.length_append, List.length_singleton, Nat.pow_succ]
        have h1 := ih (pre ++ [b]) r k (by rw [hs]; simp) (by simp; omega) (fun c hc => by
          rcases List.mem_append.1 hc with h | h
          · exact hp c h
          · simp at h; subst h; omega) (by omega)
        rw [e2]
        rw [List.length_append] at h1 ⊢
        simp only [List.length_singleton] at h1 ⊢
        rw [h1]
        conv => rhs; unfold split
        rw [if_neg hb]
        cases split f r with
        | none => rfl
        | some x => simp
theorem refgetnum_ev (s : ByteArray) (hz : s.size ≤ 9223372036854775807) : Ev (fun k => cenotaphref04_GetNum.f k s) (match getNum (L s) with
    | some x => ((x.1 : Int), B x.2, true)
    | none => (0, ⟨#[]⟩, false)) := by
  refine ⟨maxN + 200, fun k hk => ?_⟩
  show cenotaphref04_GetNum.f k s = _
  unfold cenotaphref04_GetNum.f
  have h1 := ref_loop s hz 8 [] (L s) k rfl rfl (by simp) (by omega)
  have h2 : cenotaphref04_GetNum.l0 k s 0 1 0 = _ := h1
  rw [h2]
  unfold getNum
  cases split 8 (L s) with
  | none => rfl
  | some x =>
    dsimp only
    rw [List.nil_append]
    split <;> rfl

theorem reftext_ev (s : ByteArray) (hz : s.size ≤ 9223372036854775807) (most : Int) : Ev (fun k => cenotaphref04_GetText.f k s most) (tr (getText (L s) most)) := by
  refine Ev.bind (refgetnum_ev s hz) (Ev.congr (f := fun _ => some (tr (getText (L s) most))) (fun k => ?_) (Ev.now _))
  unfold getText
  cases hg : getNum (L s) with
  | none => rfl
  | some x =>
    dsimp only
    rw [if_pos rfl, B_size]
    by_cases h1 : x.1 ≤ x.2.length
    · by_cases h2 : (x.1 : Int) ≤ most
      · rw [if_neg (by omega), if_neg (by omega), if_pos (by omega), if_pos (by omega), if_pos ⟨h1, h2⟩, Int.toNat_natCast, B_take]
        rw [← B_size x.2, B_drop]
        rfl
      · rw [if_neg (by omega), if_pos (by omega), if_neg (fun h => h2 h.2)]
        rfl
    · rw [if_pos (by omega), if_neg (fun h => h1 h.1)]
      rfl
theorem reftextw_ev (t : ByteArray) (h : t.size ≤ maxN) : Ev (fun k => cenotaphref04_Text.f k t) (B (text (L t))) := by
  refine Ev.bind (refnum_ev (t.size : Int)) (Ev.congr (f := fun _ => some (B (text (L t)))) (fun k => ?_) (Ev.now _))
  rw [clampN_in (by omega) (by unfold maxN at h; omega), Int.toNat_natCast]
  have := numB_len8 h
  unfold maxN at h
  rw [if_pos (by rw [B_size]; omega)]
  conv => lhs; rw [← B_L t, B_append, B_size]
  rfl

theorem refstep_l0 : ∀ (j : Nat) (c k : Nat), c < 2 ^ 32 → j ≤ 8 → j < k → cenotaphref01_Step.l0 k (c : Int) ((8 - j : Nat) : Int) = some (rep j c : Int)
  | 0, c, k, hc, hj, hk => by
    obtain ⟨k, rfl⟩ : ∃ m, k = m + 1 := ⟨k - 1, by omega⟩
    simp only [cenotaphref01_Step.l0]
    rw [if_neg (by omega)]
    rfl
  | j + 1, c, k, hc, hj, hk => by
    obtain ⟨k, rfl⟩ : ∃ m, k = m + 1 := ⟨k - 1, by omega⟩
    have ih := refstep_l0 j (bit1 c) k (CrcM.bit1_lt hc) (by omega) (by omega)
    have hr : ∀ i, rep i (bit1 c) = rep (i + 1) c := by
      intro i
      induction i with
      | zero => rfl
      | succ i h => rw [rep, h]; rfl
    rw [hr] at ih
    have e1 : wrap64 (((8 - (j + 1) : Nat) : Int) + 1) = ((8 - j : Nat) : Int) := by rw [w64 (by omega) (by omega)]; omega
    have e2 : Int.tdiv (c : Int) 2 % 4294967296 = ((c / 2 : Nat) : Int) := by rw [Int.tdiv_eq_ediv_of_nonneg (by omega)]; omega
    have e3 : Int.tmod (c : Int) 2 = ((c % 2 : Nat) : Int) := by rw [Int.tmod_eq_emod_of_nonneg (by omega)]; omega
    simp only [cenotaphref01_Step.l0]
    rw [if_pos (by omega), e1, e2, e3]
    by_cases ho : c % 2 = 1
    · rw [if_pos (by omega)]
      have e4 : Go.bits .xor .u32 ((c / 2 : Nat) : Int) 3988292384 = (bit1 c : Int) := by
        have := u32_xor_nat (c / 2) CrcM.poly (by omega) (by decide)
        unfold bit1
        rw [if_pos ho]
        exact this
      rw [e4]
      exact ih
    · rw [if_neg (by omega)]
      have e4 : ((c / 2 : Nat) : Int) = (bit1 c : Int) := by
        unfold bit1
        rw [if_neg ho, Nat.xor_zero]
      rw [e4]
      exact ih
theorem refstep_eq (c b k : Nat) (hc : c < 2 ^ 32) (hb : b < 256) (hk : 8 < k) : cenotaphref01_Step.f k (c : Int) (b : Int) = some (bstep c b : Int) := by
  unfold cenotaphref01_Step.f
  have e1 : Go.bits .xor .u32 (c : Int) ((b : Int) % 4294967296) = ((c ^^^ b : Nat) : Int) := by
    rw [show (b : Int) % 4294967296 = (b : Int) by omega]
    exact u32_xor_nat c b (by omega) (by omega)
  rw [e1]
  exact refstep_l0 8 (c ^^^ b) k (Nat.xor_lt_two_pow hc (by omega)) (by omega) hk
theorem refmore_l0 (s : ByteArray) (hz : s.size ≤ 9223372036854775807) : ∀ (l pre : List UInt8) (c k : Nat), L s = pre ++ l → c < 2 ^ 32 → l.length + 9 < k →
    cenotaphref01_More.l0 k (c : Int) s (pre.length : Int) = some (notN (fold c l) : Int)
  | [], pre, c, k, hs, hc, hk => by
    obtain ⟨k, rfl⟩ : ∃ m, k = m + 1 := ⟨k - 1, by omega⟩
    simp only [cenotaphref01_More.l0]
    have : s.size = pre.length := by rw [size_L, hs]; simp
    rw [if_neg (by omega)]
    have e : (4294967295 - (c : Int)) % 4294967296 = (notN c : Int) := by unfold notN; omega
    rw [e]
    rfl
  | b :: l, pre, c, k, hs, hc, hk => by
    obtain ⟨k, rfl⟩ : ∃ m, k = m + 1 := ⟨k - 1, by omega⟩
    have hsz : pre.length < s.size := by rw [size_L, hs]; simp
    have e1 : wrap64 ((pre.length : Int) + 1) = (((pre ++ [b]).length : Nat) : Int) := by rw [w64 (by omega) (by omega)]; simp
    simp only [List.length_cons] at hk
    simp only [cenotaphref01_More.l0]
    rw [if_pos (by omega), if_pos (by omega), bt_get hs rfl, refstep_eq c b.toNat k hc b.toNat_lt (by omega), e1]
    exact refmore_l0 s hz l (pre ++ [b]) (bstep c b.toNat) k (by rw [hs]; simp) (CrcM.bstep_lt hc b.toNat_lt) (by omega)
theorem refof_ev (s : ByteArray) (hz : s.size ≤ 9223372036854775807) : Ev (fun k => cenotaphref01_Of.f k s) (ofL (L s) : Int) := by
  refine ⟨s.size + 10, fun k hk => ?_⟩
  show cenotaphref01_Of.f k s = _
  unfold cenotaphref01_Of.f cenotaphref01_More.f
  have h := refmore_l0 s hz (L s) [] (notN 0) k rfl (CrcM.notN_lt 0) (by rw [← size_L]; omega)
  have h2 : cenotaphref01_More.l0 k ((4294967295 - 0) % 4294967296) s 0 = some (notN (fold (notN 0) (L s)) : Int) := h
  rw [h2]
  rfl
theorem refcheck_l0 (c : Nat) (hc : c < 2 ^ 32) (k : Nat) (hk : 4 < k) : cenotaphref04_check.l0 k (c : Int) [] 0 = some (B (le4 c)) := by
  obtain ⟨k, rfl⟩ : ∃ m, k = m + 5 := ⟨k - 5, by omega⟩
  have e1 : ∀ m : Nat, m < 2 ^ 32 → Int.tdiv (m : Int) 256 % 4294967296 = ((m / 256 : Nat) : Int) := fun m hm => by rw [Int.tdiv_eq_ediv_of_nonneg (by omega)]; omega
  have e2 : ∀ m : Nat, Int.tmod (m : Int) 256 % 256 = ((m % 256 : Nat) : Int) := fun m => by rw [Int.tmod_eq_emod_of_nonneg (by omega)]; omega
  have w1 : wrap64 (0 + 1) = 1 := w64 (by omega) (by omega)
  have w2 : wrap64 (1 + 1) = 2 := w64 (by omega) (by omega)
  have w3 : wrap64 (2 + 1) = 3 := w64 (by omega) (by omega)
  have w4 : wrap64 (3 + 1) = 4 := w64 (by omega) (by omega)
  simp only [cenotaphref04_check.l0]
  rw [if_pos (by omega), if_pos (by simp), w1, if_pos (by omega), if_pos (by simp), w2, if_pos (by omega), if_pos (by simp), w3, if_pos (by omega), if_pos (by simp), w4, if_neg (by omega)]
  rw [e1 c hc, e1 (c / 256) (by omega), e1 (c / 256 / 256) (by omega), e2, e2, e2, e2, strOf_B]
  simp only [List.nil_append, List.cons_append, List.map_cons, List.map_nil, u8_nat]
  unfold le4
  rw [Nat.div_div_eq_div_mul, Nat.div_div_eq_div_mul]
theorem refcheck_ev (s : ByteArray) (hz : s.size ≤ 9223372036854775807) : Ev (fun k => cenotaphref04_check.f k s) (B (le4 (ofL (L s)))) :=
  Ev.bind (refof_ev s hz) ⟨5, fun k hk => refcheck_l0 _ (CrcM.ofL_lt _) k (by omega)⟩
theorem refframe_ev (t : ByteArray) (h : t.size ≤ maxN) : Ev (fun k => cenotaphref04_Frame.f k t) (B (frame (L t))) := by
  have hl : (text (L t)).length ≤ 9223372036854770000 := by
    unfold text
    rw [List.length_append, ← size_L]
    have := numB_len8 h
    unfold maxN at h
    omega
  refine Ev.bind (reftextw_ev t h) (Ev.bind (reftextw_ev t h) (Ev.bind (refcheck_ev _ (by rw [B_size]; omega)) (Ev.congr (f := fun _ => some (B (frame (L t)))) (fun k => ?_) (Ev.now _))))
  rw [if_pos (by rw [B_size, B_size, le4_length]; omega), B_append]
  rfl
theorem refgetframe_ev (s : ByteArray) (hz : s.size ≤ 9223372036854775807) : Ev (fun k => cenotaphref04_GetFrame.f k s) (tr (getFrame (L s))) := by
  refine Ev.bind (reftext_ev s hz 5000) ?_
  unfold getFrame
  cases hg : getText (L s) 5000 with
  | none => exact Ev.now _
  | some x =>
    obtain ⟨h1, h0, hm⟩ := getText_some (t := x.1) (r := x.2) hg
    have hs : s.size = (text x.1).length + x.2.length := by rw [size_L, ← h1, List.length_append]
    rw [show tr (some x) = (B x.1, B x.2, true) from rfl]
    dsimp only
    by_cases h4 : x.2.length < 4
    · refine Ev.congr (f := fun _ => some (⟨#[]⟩, ⟨#[]⟩, false)) (fun k => ?_) ?_
      · rw [if_pos rfl, if_pos (by rw [B_size]; omega)]
      · rw [if_neg (by omega)]
        exact Ev.now _
    · refine Ev.congr (f := fun k => (cenotaphref04_Text.f k (B x.1)).bind fun t162 => ((cenotaphref04_check.f k t162).bind fun t163 => (if ((B x.2).extract 0 4).toList = t163.toList then (some (B x.1, (B x.2).extract 4 (B x.2).size, true)) else (some ((⟨#[]⟩ : ByteArray), (⟨#[]⟩ : ByteArray), false))))) (fun k => ?_) ?_
      · rw [if_pos rfl, if_neg (by rw [B_size]; omega), if_pos (by omega), if_pos (by rw [B_size]; omega)]
      · refine Ev.bind (reftextw_ev (B x.1) (by rw [B_size]; exact hm)) (Ev.bind (refcheck_ev _ (by rw [B_size, L_B]; omega)) ?_)
        rw [toList_L, toList_L, B_take, L_B, L_B, L_B, L_B, B_drop]
        by_cases hc : x.2.take 4 = le4 (ofL (text x.1))
        · rw [if_pos hc, if_pos ⟨by omega, hc⟩]
          exact Ev.now _
        · rw [if_neg hc, if_neg (fun h => hc h.2)]
          exact Ev.now _
end Go.Proofs.Ytobkeakbahkglaa.WireP
namespace Go.Proofs.Ytobkeakbahkglaa.PageM
open Go.RowKit Go.Proofs.Ytobkeakbahkglaa.Fn Go.Proofs.YtobkeakbahkglaaW.PrintWords Go.Proofs.YtobkeakbahkglaaW.PrintLast Go.Proofs.YtobkeakbahkglaaW.PrintMore Go.Proofs.Ytobkeakbahkglaa.WireM Go.Proofs.Ytobkeakbahkglaa.WireP
theorem refvalid_eq (k s o l : Int) (t : ByteArray) : cenotaphref14_Valid.f k s o l t = some (valid k s o l t) := by
  unfold cenotaphref14_Valid.f valid inNum
  by_cases h0 : k ≥ 0
  · by_cases h1 : k ≤ 1
    · have e : (decide (k = 0) || decide (k = 1)) = true := by simp; omega
      rw [if_pos h0, if_pos h1, e]
      by_cases a1 : s ≥ 0 <;> by_cases a2 : s ≤ 1099511627776 <;> by_cases a3 : o ≥ 0 <;> by_cases a4 : o ≤ 1099511627776 <;> by_cases a5 : l ≥ 0 <;> by_cases a6 : l ≤ 1099511627776 <;> simp [a1, a2, a3, a4, a5, a6] <;> omega
    · have e : (decide (k = 0) || decide (k = 1)) = false := by simp; omega
      rw [if_pos h0, if_neg h1, e]
      rfl
  · have e : (decide (k = 0) || decide (k = 1)) = false := by simp; omega
    rw [if_neg h0, e]
    rfl
end Go.Proofs.Ytobkeakbahkglaa.PageM
