/- What else only reads a chip. -/
import Derived.Test.YtfjnjhlmmdeilaaChipA
namespace Go.Proofs.Ytfjnjhlmmdeilaa.ChipA
open Go.RowKit Go.Proofs.Ytfjnjhlmmdeilaa.ChipM

section
variable {own : Nat → Prop} {w : World} {m : Chp} {c bb : Nat} {cs : Array Value} {fz : Option Nat} {fl : Nat → Option Nat}
theorem next_any (h : Own own w m c bb cs fz fl) (hn : m.n ≤ 64) (b : Int) :
    Calls Try.prog 12 #[.pointer (some ⟨c, 0, none⟩), .int .i64 b] w fun e w' => e = .returned (.int .i64 (next m b)) ∧ w' = w := by
  unfold next
  cases hb : there m b with
  | true =>
    obtain ⟨k, rfl, hk⟩ := there_of hb
    have ca := at_yes h hn hk
    have hc := h.b32 hk
    unfold at_
    simp only [Int.toNat_natCast, if_true]
    generalize ((m.blk k).text.length : Int) = v at hc
    generalize k * 36 = o at ca hc
    clear h hb hn hk
    go_enter Try.func12, Try.ntmps12
    go_wp2_with (go_at_call 25; refine ca.mono ?_; rintro e w' ⟨rfl, rfl⟩)
    go_ret
    exact ⟨rfl, rfl⟩
  | false =>
    have ca := at_no h hn hb
    clear h hb hn
    go_enter Try.func12, Try.ntmps12
    go_wp2_with (go_at_call 25; refine ca.mono ?_; rintro e w' ⟨rfl, rfl⟩)
    go_ret
    exact ⟨rfl, rfl⟩
theorem worn_any (h : Own own w m c bb cs fz fl) (hn : m.n ≤ 64) (b : Int) :
    Calls Try.prog 13 #[.pointer (some ⟨c, 0, none⟩), .int .i64 b] w fun e w' => e = .returned (.int .i64 (worn m b)) ∧ w' = w := by
  unfold worn
  cases hb : there m b with
  | true =>
    obtain ⟨k, rfl, hk⟩ := there_of hb
    have ca := at_yes h hn hk
    have hc := h.b33 hk
    unfold at_
    simp only [Int.toNat_natCast, if_true]
    generalize ((m.blk k).worn : Int) = v at hc
    generalize k * 36 = o at ca hc
    clear h hb hn hk
    go_enter Try.func13, Try.ntmps13
    go_wp2_with (go_at_call 25; refine ca.mono ?_; rintro e w' ⟨rfl, rfl⟩)
    go_ret
    exact ⟨rfl, rfl⟩
  | false =>
    have ca := at_no h hn hb
    clear h hb hn
    go_enter Try.func13, Try.ntmps13
    go_wp2_with (go_at_call 25; refine ca.mono ?_; rintro e w' ⟨rfl, rfl⟩)
    go_ret
    exact ⟨rfl, rfl⟩
theorem bad_any (h : Own own w m c bb cs fz fl) (hn : m.n ≤ 64) (b : Int) :
    Calls Try.prog 22 #[.pointer (some ⟨c, 0, none⟩), .int .i64 b] w fun e w' => e = .returned (.bool (bad m b)) ∧ w' = w := by
  unfold bad
  cases hb : there m b with
  | true =>
    obtain ⟨k, rfl, hk⟩ := there_of hb
    have ca := at_yes h hn hk
    have hc := h.b34 hk
    unfold at_
    simp only [Int.toNat_natCast, Bool.not_true, Bool.false_or]
    generalize (m.blk k).bad = v at hc
    generalize k * 36 = o at ca hc
    clear h hb hn hk
    go_enter Try.func22, Try.ntmps22
    go_wp2_with (go_at_call 25; refine ca.mono ?_; rintro e w' ⟨rfl, rfl⟩)
    go_ret
    exact ⟨rfl, rfl⟩
  | false =>
    have ca := at_no h hn hb
    clear h hb hn
    go_enter Try.func22, Try.ntmps22
    go_wp2_with (go_at_call 25; refine ca.mono ?_; rintro e w' ⟨rfl, rfl⟩)
    go_ret
    exact ⟨rfl, rfl⟩
theorem dead_any (h : Own own w m c bb cs fz fl) :
    Calls Try.prog 17 #[.pointer (some ⟨c, 0, none⟩)] w fun e w' => e = .returned (.bool m.dead) ∧ w' = w := by
  have h3 := h.c3
  clear h
  generalize m.dead = d at h3
  go_enter Try.func17, Try.ntmps17
  go_wp2_with fail
  go_ret
  exact ⟨rfl, rfl⟩
end
end Go.Proofs.Ytfjnjhlmmdeilaa.ChipA
