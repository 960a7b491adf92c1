/- The digits of any check, and which check any text is: the plain law. -/
import Derived.Test.YtkejhcpaklefjaaCrcP
import Derived.Test.YtkejhcpaklefjaaFn2
namespace Go.Proofs.Ytkejhcpaklefjaa.Pure
open Go.RowKit Go.Proofs.Ytkejhcpaklefjaa.Fn Go.Proofs.YtkejhcpaklefjaaW.PrintWords Go.Proofs.YtkejhcpaklefjaaW.PrintLast Go.Proofs.Ytkejhcpaklefjaa.CrcP Go.Proofs.Ytkejhcpaklefjaa.CrcM Go.Proofs.Ytkejhcpaklefjaa.CrcN Go.Proofs.Ytkejhcpaklefjaa.CrcS

theorem dig_all : ∀ n : Fin 256, ∀ j : Fin 16, (bt (⟨#[48, 49, 50, 51, 52, 53, 54, 55, 56, 57, 97, 98, 99, 100, 101, 102]⟩ : ByteArray) (j.val : Int) = (n.val : Int)) ↔ dig (UInt8.ofNat n.val) = (j.val : Int) := by decide +kernel
theorem dig_at (b : UInt8) (j : Nat) (hj : j < 16) : (bt (⟨#[48, 49, 50, 51, 52, 53, 54, 55, 56, 57, 97, 98, 99, 100, 101, 102]⟩ : ByteArray) (j : Int) = (b.toNat : Int)) ↔ dig b = (j : Int) := by
  have := dig_all ⟨b.toNat, b.toNat_lt⟩ ⟨j, hj⟩
  simpa using this
theorem dig_digit_all : ∀ j : Fin 16, dig (digit j.val) = (j.val : Int) := by decide +kernel
theorem dig_digit (n : Nat) (h : n < 16) : dig (digit n) = (n : Int) := dig_digit_all ⟨n, h⟩
theorem digit_dig_all : ∀ n : Fin 256, 0 ≤ dig (UInt8.ofNat n.val) → digit (dig (UInt8.ofNat n.val)).toNat = UInt8.ofNat n.val := by decide +kernel
theorem digit_dig (b : UInt8) (h : 0 ≤ dig b) : digit (dig b).toNat = b := by
  have := digit_dig_all ⟨b.toNat, b.toNat_lt⟩
  simp only [UInt8.ofNat_toNat] at this
  exact this h
/-- What is found up to place j. -/
def cur (b : UInt8) (j : Nat) : Int := if 0 ≤ dig b ∧ dig b < (j : Int) then dig b else -1
theorem refnum_l1 (s : ByteArray) (hz : s.size ≤ 9223372036854775807) (pre l : List UInt8) (b : UInt8) (hs : L s = pre ++ b :: l) (c : Int) (m : Nat) : ∀ (d j : Nat), j + d = 16 →
    cenotaphref01_Number.l1 (m + d + 1) s c (pre.length : Int) (cur b j) (j : Int) = if dig b < 0 then some (0, false) else cenotaphref01_Number.l0 m s (((c * 16) % 4294967296 + dig b % 4294967296) % 4294967296) (wrap64 ((pre.length : Int) + 1))
  | 0, j, hj => by
    obtain rfl : j = 16 := by omega
    have hd := dig_range b
    simp only [cenotaphref01_Number.l1]
    rw [if_neg (by omega)]
    unfold cur
    by_cases h : dig b < 0
    · rw [if_pos (by rw [if_neg (by omega)]; omega), if_pos h]
    · have e : (if 0 ≤ dig b ∧ dig b < ((16 : Nat) : Int) then dig b else -1) = dig b := if_pos ⟨by omega, by omega⟩
      rw [e, if_neg h]
  | d + 1, j, hj => by
    have hj16 : j < 16 := by omega
    have hsz : pre.length < s.size := by rw [size_L, hs]; simp
    have ih := refnum_l1 s hz pre l b hs c m d (j + 1) (by omega)
    have hd := dig_range b
    have e1 : wrap64 ((j : Int) + 1) = ((j + 1 : Nat) : Int) := by rw [w64 (by omega) (by omega)]; rfl
    have hdj := dig_at b j hj16
    have hbt := bt_get hs rfl
    rw [← ih, show m + (d + 1) + 1 = (m + d + 1) + 1 by omega]
    conv => lhs; rw [cenotaphref01_Number.l1]
    rw [if_pos (by omega), if_pos (by omega), if_pos (by omega), if_pos (by omega), hbt, e1]
    by_cases h : dig b = (j : Int)
    · rw [if_pos (hdj.2 h)]
      have : cur b (j + 1) = (j : Int) := by unfold cur; rw [if_pos (by omega)]; exact h
      rw [this]
    · rw [if_neg (fun x => h (hdj.1 x))]
      have : cur b (j + 1) = cur b j := by
        unfold cur
        by_cases h2 : 0 ≤ dig b ∧ dig b < (j : Int)
        · rw [if_pos h2, if_pos (by omega)]
        · rw [if_neg h2, if_neg (by omega)]
      rw [this]
def numR (o : Option Nat) : Int × Bool := (((o.getD 0 : Nat) : Int), o.isSome)
theorem refnum_l0 (s : ByteArray) (hz : s.size = 8) : ∀ (l pre : List UInt8) (c k : Nat), L s = pre ++ l → c < 16 ^ pre.length →
    cenotaphref01_Number.l0 (k + 18 * l.length + 1) s (c : Int) (pre.length : Int) = some (numR (numF c l))
  | [], pre, c, k, hs, hc => by
    have : s.size = pre.length := by rw [size_L, hs]; simp
    simp only [cenotaphref01_Number.l0]
    rw [if_neg (by omega), numF]
    rfl
  | b :: l, pre, c, k, hs, hc => by
    have hlen : pre.length + (l.length + 1) = 8 := by rw [← hz, size_L, hs]; simp
    have hd := dig_range b
    have h1 := refnum_l1 s (by omega) pre l b hs (c : Int) (k + 18 * l.length + 1) 16 0 (by omega)
    have e0 : cur b 0 = -1 := by unfold cur; rw [if_neg (by omega)]
    rw [e0] at h1
    have hc7 : c < 16 ^ 7 := Nat.lt_of_lt_of_le hc (Nat.pow_le_pow_right (by omega) (by omega))
    simp only [List.length_cons]
    rw [show k + 18 * (l.length + 1) + 1 = (k + 18 * l.length + 1 + 16 + 1) + 1 by omega]
    conv => lhs; rw [cenotaphref01_Number.l0]
    rw [if_pos (by omega)]
    have h2 : cenotaphref01_Number.l1 (k + 18 * l.length + 1 + 16 + 1) s (c : Int) (pre.length : Int) (-1) 0 = _ := h1
    rw [h2, numF]
    by_cases h : dig b < 0
    · rw [if_pos h, if_pos h]
      rfl
    · rw [if_neg h, if_neg h]
      have e1 : wrap64 ((pre.length : Int) + 1) = (((pre ++ [b]).length : Nat) : Int) := by rw [w64 (by omega) (by omega)]; simp
      have e2 : ((c : Int) * 16 % 4294967296 + dig b % 4294967296) % 4294967296 = ((c * 16 + (dig b).toNat : Nat) : Int) := by omega
      rw [e1, e2]
      refine refnum_l0 s hz l (pre ++ [b]) _ k (by rw [hs]; simp) ?_
      rw [List.length_append, List.length_singleton, Nat.pow_succ]
      omega
theorem refnumber_ev (s : ByteArray) : Ev (fun k => cenotaphref01_Number.f k s) (numR (numN s)) := by
  refine ⟨200, fun k hk => ?_⟩
  show cenotaphref01_Number.f k s = _
  unfold cenotaphref01_Number.f
  by_cases h : s.size = 8
  · rw [if_pos (by omega)]
    have hl : (L s).length = 8 := by rw [← size_L]; exact h
    have := refnum_l0 s h (L s) [] 0 (k - 145) rfl (by decide)
    rw [show k - 145 + 18 * (L s).length + 1 = k by omega] at this
    unfold numN
    rw [if_pos h]
    exact this
  · rw [if_neg (by omega)]
    unfold numN
    rw [if_neg h]
    rfl
theorem text8_L (c : Nat) : L ⟨(text8 c).toArray⟩ = text8 c := rfl
theorem numF_text (c : Nat) (hc : c < 2 ^ 32) : numF 0 (text8 c) = some c := by
  have d : ∀ n x : Nat, n < 16 → ¬ dig (digit n) < 0 ∧ x * 16 + (dig (digit n)).toNat = x * 16 + n := fun n x h => by rw [dig_digit n h]; omega
  have m : ∀ x : Nat, x % 16 < 16 := fun x => Nat.mod_lt _ (by omega)
  unfold text8
  unfold numF; rw [if_neg (d _ 0 (m _)).1, (d _ _ (m _)).2]
  unfold numF; rw [if_neg (d _ 0 (m _)).1, (d _ _ (m _)).2]
  unfold numF; rw [if_neg (d _ 0 (m _)).1, (d _ _ (m _)).2]
  unfold numF; rw [if_neg (d _ 0 (m _)).1, (d _ _ (m _)).2]
  unfold numF; rw [if_neg (d _ 0 (m _)).1, (d _ _ (m _)).2]
  unfold numF; rw [if_neg (d _ 0 (m _)).1, (d _ _ (m _)).2]
  unfold numF; rw [if_neg (d _ 0 (m _)).1, (d _ _ (m _)).2]
  unfold numF; rw [if_neg (d _ 0 (m _)).1, (d _ _ (m _)).2]
  unfold numF
  congr 1
  omega
theorem numN_text (c : Nat) (hc : c < 2 ^ 32) : numN ⟨(text8 c).toArray⟩ = some c := by
  have h8 : (⟨(text8 c).toArray⟩ : ByteArray).size = 8 := by rw [size_L, text8_L]; unfold text8; rfl
  unfold numN
  rw [if_pos h8]
  exact numF_text c hc
theorem numF_some {b : UInt8} {r : List UInt8} {c n : Nat} (h : numF c (b :: r) = some n) : ∃ d, d < 16 ∧ b = digit d ∧ numF (c * 16 + d) r = some n := by
  unfold numF at h
  have hd := dig_range b
  by_cases hb : dig b < 0
  · rw [if_pos hb] at h
    cases h
  · rw [if_neg hb] at h
    exact ⟨(dig b).toNat, by omega, (digit_dig b (by omega)).symm, h⟩
theorem numF_back {l : List UInt8} {n : Nat} (hl : l.length = 8) (h : numF 0 l = some n) : text8 n = l ∧ n < 2 ^ 32 := by
  match l, hl with
  | [b7, b6, b5, b4, b3, b2, b1, b0], _ =>
    obtain ⟨d7, h7, rfl, k7⟩ := numF_some h
    obtain ⟨d6, h6, rfl, k6⟩ := numF_some k7
    obtain ⟨d5, h5, rfl, k5⟩ := numF_some k6
    obtain ⟨d4, h4, rfl, k4⟩ := numF_some k5
    obtain ⟨d3, h3, rfl, k3⟩ := numF_some k4
    obtain ⟨d2, h2, rfl, k2⟩ := numF_some k3
    obtain ⟨d1, h1, rfl, k1⟩ := numF_some k2
    obtain ⟨d0, h0, rfl, k0⟩ := numF_some k1
    unfold numF at k0
    have hn := Option.some.inj k0
    refine ⟨?_, by omega⟩
    unfold text8
    rw [show n / 268435456 % 16 = d7 by omega, show n / 16777216 % 16 = d6 by omega, show n / 1048576 % 16 = d5 by omega, show n / 65536 % 16 = d4 by omega, show n / 4096 % 16 = d3 by omega, show n / 256 % 16 = d2 by omega, show n / 16 % 16 = d1 by omega, show n % 16 = d0 by omega]
theorem numN_back {s : ByteArray} {n : Nat} (h : numN s = some n) : (⟨(text8 n).toArray⟩ : ByteArray) = s ∧ n < 2 ^ 32 := by
  unfold numN at h
  by_cases h8 : s.size = 8
  · rw [if_pos h8] at h
    obtain ⟨h1, h2⟩ := numF_back (by rw [← h8, size_L]) h
    exact ⟨L_inj (by rw [text8_L]; exact h1), h2⟩
  · rw [if_neg h8] at h
    cases h
theorem text_eq (c : Nat) (hc : c < 2 ^ 32) : crc_Text.f (c : Int) = some ⟨(text8 c).toArray⟩ := by
  unfold crc_Text.f
  rw [if_pos (by omega), Int.toNat_natCast]
theorem number_eq (s : ByteArray) : crc_Number.f s = some (numR (numN s)) := by
  unfold crc_Number.f numR
  rfl
theorem number_back (c : Nat) (hc : c < 2 ^ 32) : crc_Number.f ⟨(text8 c).toArray⟩ = some ((c : Int), true) := by
  unfold crc_Number.f
  rw [numN_text c hc]
  rfl
theorem reftext_eq (c : Nat) (hc : c < 2 ^ 32) : cenotaphref01_Text.f (c : Int) = some ⟨(text8 c).toArray⟩ := text_eq c hc
/-- What stands behind the reference's answer. -/
theorem text_rest (s : ByteArray) (bt : Int × Bool) : (if (numR (numN s)).1 = bt.1 then (if ((numR (numN s)).2 == bt.2) = true then (if (numR (numN s)).2 = true then ((crc_Text.f (numR (numN s)).1).bind fun t121 => (some (t121.toList == s.toList))) else (some true)) else (some false)) else (some false)) = (if (numR (numN s)).1 = bt.1 then (if ((numR (numN s)).2 == bt.2) = true then some true else some false) else some false) := by
  cases hn : numN s with
  | none => simp [numR]
  | some n =>
    obtain ⟨h1, h2⟩ := numN_back hn
    have : crc_Text.f ((numR (some n)).1) = some s := by
      show crc_Text.f (n : Int) = _
      rw [text_eq n h2, h1]
    rw [this]
    simp [numR]
theorem CrcText : cenotaphlaw01_CrcText.Pure := by
  intro a s ha hs
  obtain ⟨c, rfl, hc⟩ := wf_u32 ha
  refine Ev.rounds (Ev.congr (f := fun k => (cenotaphref01_Number.f k s).bind fun bt114 => if (numR (numN s)).1 = bt114.1 then (if ((numR (numN s)).2 == bt114.2) = true then some true else some false) else some false) (fun k => ?_) (Ev.bind (refnumber_ev s) (Ev.congr (fun k => by rw [if_pos rfl, if_pos (beq_self_eq_true _)]) (Ev.now true))))
  unfold cenotaphlaw01_CrcText.f cenotaphlaw01_works.f
  rw [number_eq, text_eq c hc, reftext_eq c hc]
  simp only [Option.bind_some, if_true]
  refine congrArg (fun F => (cenotaphref01_Number.f k s).bind F) (funext fun bt => ?_)
  rw [number_back c hc]
  simp only [Option.bind_some, if_true]
  exact text_rest s bt
end Go.Proofs.Ytkejhcpaklefjaa.Pure
