/- A chip in memory; what only reads it. -/
import Derived.Test.YtfjnjhlmmdeilaaProg
import Derived.Test.YtfjnjhlmmdeilaaChipM
import Derived.WalkKit
import Derived.KernelRfl
import Derived.Outline
import Derived.Lib.Hide
import Derived.Deep.WholeRow
import Derived.Deep.QuietTactic
import Derived.BigQuiet
set_option linter.unusedVariables false
namespace Go.Proofs.Ytfjnjhlmmdeilaa.ChipA
open Go.RowKit Go.Proofs.Ytfjnjhlmmdeilaa.ChipM

def ptr (o : Option Nat) : Value := .pointer (o.map fun k => ⟨k, 0, none⟩)
def chipCells (m : Chp) (bb : Nat) (fz : Option Nat) : Array Value := #[.slice (some ⟨bb, 0, none⟩) m.n m.n, .int .i64 m.pages, .int .i64 m.data, .bool m.dead, ptr fz]
/-- A block's cells, behind a place. -/
structure BlkAt (cs : Array Value) (o : Nat) (x : Blk) (fl : Option Nat) : Prop where
  p : ∀ k, k < 32 → ∃ s, cs[o + k]? = some (.string s)
  t : ∀ k, k < x.text.length → cs[o + k]? = some (.string (x.text.getD k ⟨#[]⟩))
  n : cs[o + 32]? = some (.int .i64 x.text.length)
  w : cs[o + 33]? = some (.int .i64 x.worn)
  b : cs[o + 34]? = some (.bool x.bad)
  f : cs[o + 35]? = some (ptr fl)
structure Own (own : Nat → Prop) (w : World) (m : Chp) (c bb : Nat) (cs : Array Value) (fz : Option Nat) (fl : Nat → Option Nat) : Prop where
  oc : own c
  ob : own bb
  lt : ∀ k, own k → k < w.heap.size
  ne : c ≠ bb
  hc : w.heap[c]? = some (.cells (chipCells m bb fz) 56 (0, 0))
  hb : w.heap[bb]? = some (.cells cs 62 (0, 0))
  bs : ∀ b, b < m.n → BlkAt cs (b * 36) (m.blk b) (fl b)
  f0 : fz = none ↔ m.fuse = none
  f1 : ∀ z, fz = some z → own z ∧ z ≠ c ∧ z ≠ bb ∧ ∃ n t, m.fuse = some (n, t) ∧ w.heap[z]? = some (.cells #[.int .i64 (n : Int), .string t] 67 (0, 0))
  l0 : ∀ b, b < m.n → (fl b = none ↔ (m.blk b).fails = none)
  l1 : ∀ b, b < m.n → ∀ z, fl b = some z → own z ∧ z ≠ c ∧ z ≠ bb ∧ fz ≠ some z ∧ ∃ t, (m.blk b).fails = some t ∧ w.heap[z]? = some (.cells #[.string t] 9 (0, 0))
/-- The chip at block c is as m says. -/
def ChipAt (own : Nat → Prop) (w : World) (c : Nat) (m : Chp) : Prop := ∃ bb cs fz fl, Own own w m c bb cs fz fl

theorem within_any (n low high : Int) (w : World) : Calls Try.prog 24 #[.int .i64 n, .int .i64 low, .int .i64 high] w fun e w' => e = .returned (.bool (within n low high)) ∧ w' = w := by
  unfold within
  cases h1 : decide (low ≤ n) with
  | false =>
    go_enter Try.func24, Try.ntmps24
    go_wp2_with fail
    go_ret
    exact ⟨rfl, rfl⟩
  | true =>
    go_enter Try.func24, Try.ntmps24
    go_wp2_with fail
    go_ret
    exact ⟨rfl, rfl⟩
theorem there_nat (m : Chp) (k : Nat) : there m (k : Int) = decide (k < m.n) := by
  unfold there within
  rw [Bool.eq_iff_iff]
  simp
  omega
theorem there_yes {m : Chp} {k : Nat} (h : k < m.n) : within (k : Int) 0 ((m.n : Int) - 1) = true := by
  have := there_nat m k
  unfold there at this
  rw [this]
  simpa using h
theorem there_of {m : Chp} {b : Int} (h : there m b = true) : ∃ k : Nat, b = (k : Int) ∧ k < m.n := by
  unfold there within at h
  simp at h
  exact ⟨b.toNat, by omega, by omega⟩
section
variable {own : Nat → Prop} {w : World} {m : Chp} {c bb : Nat} {cs : Array Value} {fz : Option Nat} {fl : Nat → Option Nat}
theorem Own.c0 (h : Own own w m c bb cs fz fl) : w.cell? ⟨c, 0, none⟩ = some (.slice (some ⟨bb, 0, none⟩) m.n m.n) := by rw [cell_of_row _ _ _ _ _ _ h.hc]; rfl
theorem Own.c1 (h : Own own w m c bb cs fz fl) : w.cell? ⟨c, 1, none⟩ = some (.int .i64 m.pages) := by rw [cell_of_row _ _ _ _ _ _ h.hc]; rfl
theorem Own.c2 (h : Own own w m c bb cs fz fl) : w.cell? ⟨c, 2, none⟩ = some (.int .i64 m.data) := by rw [cell_of_row _ _ _ _ _ _ h.hc]; rfl
theorem Own.c3 (h : Own own w m c bb cs fz fl) : w.cell? ⟨c, 3, none⟩ = some (.bool m.dead) := by rw [cell_of_row _ _ _ _ _ _ h.hc]; rfl
theorem Own.c4 (h : Own own w m c bb cs fz fl) : w.cell? ⟨c, 4, none⟩ = some (ptr fz) := by rw [cell_of_row _ _ _ _ _ _ h.hc]; rfl
theorem Own.b32 (h : Own own w m c bb cs fz fl) {k : Nat} (hk : k < m.n) : w.cell? ⟨bb, k * 36 + 32, none⟩ = some (.int .i64 (m.blk k).text.length) := by rw [cell_of_row _ _ _ _ _ _ h.hb]; exact (h.bs k hk).n
theorem Own.b33 (h : Own own w m c bb cs fz fl) {k : Nat} (hk : k < m.n) : w.cell? ⟨bb, k * 36 + 33, none⟩ = some (.int .i64 (m.blk k).worn) := by rw [cell_of_row _ _ _ _ _ _ h.hb]; exact (h.bs k hk).w
theorem Own.b34 (h : Own own w m c bb cs fz fl) {k : Nat} (hk : k < m.n) : w.cell? ⟨bb, k * 36 + 34, none⟩ = some (.bool (m.blk k).bad) := by rw [cell_of_row _ _ _ _ _ _ h.hb]; exact (h.bs k hk).b
theorem Own.b35 (h : Own own w m c bb cs fz fl) {k : Nat} (hk : k < m.n) : w.cell? ⟨bb, k * 36 + 35, none⟩ = some (ptr (fl k)) := by rw [cell_of_row _ _ _ _ _ _ h.hb]; exact (h.bs k hk).f
theorem Own.bt (h : Own own w m c bb cs fz fl) {k : Nat} (hk : k < m.n) {p : Nat} (hp : p < (m.blk k).text.length) : w.cell? ⟨bb, k * 36 + p, none⟩ = some (.string ((m.blk k).text.getD p ⟨#[]⟩)) := by rw [cell_of_row _ _ _ _ _ _ h.hb]; exact (h.bs k hk).t p hp
theorem at_yes (h : Own own w m c bb cs fz fl) (hn : m.n ≤ 64) {k : Nat} (hk : k < m.n) :
    Calls Try.prog 25 #[.pointer (some ⟨c, 0, none⟩), .int .i64 (k : Int)] w fun e w' => e = .returned (.pointer (some ⟨bb, k * 36, none⟩)) ∧ w' = w := by
  have hc0 := h.c0
  have hw := within_any (k : Int) 0 ((m.n : Int) - 1)
  rw [there_yes hk] at hw
  clear h
  generalize m.n = n at hc0 hw hn hk
  go_enter Try.func25, Try.ntmps25
  go_wp2_with (go_at_call 24; refine (hw _).mono ?_; rintro e w' ⟨rfl, rfl⟩)
  go_ret
  exact ⟨rfl, rfl⟩
theorem at_no (h : Own own w m c bb cs fz fl) (hn : m.n ≤ 64) {b : Int} (hb : there m b = false) :
    Calls Try.prog 25 #[.pointer (some ⟨c, 0, none⟩), .int .i64 b] w fun e w' => e = .returned (.pointer none) ∧ w' = w := by
  have hc0 := h.c0
  have hw := within_any b 0 ((m.n : Int) - 1)
  unfold there at hb
  rw [hb] at hw
  clear h hb
  generalize m.n = n at hc0 hw hn
  go_enter Try.func25, Try.ntmps25
  go_wp2_with (go_at_call 24; refine (hw _).mono ?_; rintro e w' ⟨rfl, rfl⟩)
  go_ret
  exact ⟨rfl, rfl⟩
theorem size_any (h : Own own w m c bb cs fz fl) :
    Calls Try.prog 23 #[.pointer (some ⟨c, 0, none⟩)] w fun e w' => e = .returned (.tuple #[.int .i64 m.n, .int .i64 m.pages, .int .i64 m.data]) ∧ ∃ n, w' = w.drewN n := by
  have h0 := h.c0
  have h1 := h.c1
  have h2 := h.c2
  clear h
  generalize m.n = n at h0
  generalize m.pages = p at h1
  generalize m.data = d at h2
  go_enter Try.func23, Try.ntmps23
  go_wp2_with fail
  go_quiet (fail)
  go_wp2_with fail
  go_ret3
  exact ⟨rfl, _, rfl⟩
theorem cut_long {s : ByteArray} {d : Nat} (h : d < s.size) : s.extract 0 (min s.size d) = s.extract 0 d := by rw [Nat.min_eq_right (Nat.le_of_lt h)]
theorem cut_short {s : ByteArray} {d : Nat} (h : ¬ d < s.size) : s.extract 0 (min s.size d) = s := by
  rw [Nat.min_eq_left (by omega)]
  apply ByteArray.ext
  simp
theorem cut_any (h : Own own w m c bb cs fz fl) (hd : m.data ≤ 256) (s : ByteArray) :
    Calls Try.prog 31 #[.pointer (some ⟨c, 0, none⟩), .string s] w fun e w' => e = .returned (.string (cut m s)) ∧ w' = w := by
  have h2 := h.c2
  unfold cut
  clear h
  generalize m.data = d at h2 hd
  by_cases hlt : d < s.size
  · rw [cut_long hlt]
    go_enter Try.func31, Try.ntmps31
    go_wp2_with fail
    go_ret
    exact ⟨rfl, rfl⟩
  · rw [cut_short hlt]
    go_enter Try.func31, Try.ntmps31
    go_wp2_with fail
    go_ret
    exact ⟨rfl, rfl⟩
theorem read_no (h : Own own w m c bb cs fz fl) (hn : m.n ≤ 64) {b : Int} (hb : there m b = false) (p : Int) :
    Calls Try.prog 15 #[.pointer (some ⟨c, 0, none⟩), .int .i64 b, .int .i64 p] w fun e w' => e = .returned (.tuple #[.string ⟨#[]⟩, .bool false]) ∧ w' = w := by
  have ca := at_no h hn hb
  clear h hb hn
  go_enter Try.func15, Try.ntmps15
  go_wp2_with (go_at_call 25; refine ca.mono ?_; rintro e w' ⟨rfl, rfl⟩)
  go_ret2
  exact ⟨rfl, rfl⟩
theorem read_off (h : Own own w m c bb cs fz fl) (hn : m.n ≤ 64) {k : Nat} (hk : k < m.n) (ht : (m.blk k).text.length ≤ 32) (p : Int) (hp : within p 0 (((m.blk k).text.length : Int) - 1) = false) :
    Calls Try.prog 15 #[.pointer (some ⟨c, 0, none⟩), .int .i64 (k : Int), .int .i64 p] w fun e w' => e = .returned (.tuple #[.string ⟨#[]⟩, .bool false]) ∧ w' = w := by
  have ca := at_yes h hn hk
  have hc := h.b32 hk
  have hw := within_any p 0 (((m.blk k).text.length : Int) - 1)
  rw [hp] at hw
  generalize (m.blk k).text.length = v at hc hw ht
  generalize k * 36 = o at ca hc
  clear h hn hk hp
  go_enter Try.func15, Try.ntmps15
  go_wp2_with (first
    | (go_at_call 25; refine ca.mono ?_; rintro e w' ⟨rfl, rfl⟩)
    | (go_at_call 24; refine (hw _).mono ?_; rintro e w' ⟨rfl, rfl⟩))
  go_ret2
  exact ⟨rfl, rfl⟩
theorem read_on (h : Own own w m c bb cs fz fl) (hn : m.n ≤ 64) {k : Nat} (hk : k < m.n) (ht : (m.blk k).text.length ≤ 32) (p : Nat) (hp : p < (m.blk k).text.length) :
    Calls Try.prog 15 #[.pointer (some ⟨c, 0, none⟩), .int .i64 (k : Int), .int .i64 (p : Int)] w fun e w' => e = .returned (.tuple #[.string ((m.blk k).text.getD p ⟨#[]⟩), .bool true]) ∧ w' = w := by
  have ca := at_yes h hn hk
  have hc := h.b32 hk
  have ht2 := h.bt hk hp
  have hw := within_any (p : Int) 0 (((m.blk k).text.length : Int) - 1)
  have hp2 : within (p : Int) 0 (((m.blk k).text.length : Int) - 1) = true := by unfold within; simp; omega
  rw [hp2] at hw
  have hp3 : p < 32 := by omega
  generalize (m.blk k).text.getD p ⟨#[]⟩ = s at ht2
  generalize (m.blk k).text.length = v at hc hw ht
  generalize k * 36 = o at ca hc ht2
  clear h hn hk hp hp2
  go_enter Try.func15, Try.ntmps15
  go_wp2_with (first
    | (go_at_call 25; refine ca.mono ?_; rintro e w' ⟨rfl, rfl⟩)
    | (go_at_call 24; refine (hw _).mono ?_; rintro e w' ⟨rfl, rfl⟩))
  go_ret2
  exact ⟨rfl, rfl⟩
theorem read_any (h : Own own w m c bb cs fz fl) (hn : m.n ≤ 64) (ht : ∀ k, (m.blk k).text.length ≤ 32) (b p : Int) :
    Calls Try.prog 15 #[.pointer (some ⟨c, 0, none⟩), .int .i64 b, .int .i64 p] w fun e w' => e = .returned (.tuple #[.string (readAt m b p).1, .bool (readAt m b p).2]) ∧ w' = w := by
  unfold readAt
  cases hb : there m b with
  | false => simpa using read_no h hn hb p
  | true =>
    obtain ⟨k, rfl, hk⟩ := there_of hb
    unfold at_
    simp only [Int.toNat_natCast, true_and]
    cases hp : within p 0 (((m.blk k).text.length : Int) - 1) with
    | false => simpa using read_off h hn hk (ht k) p hp
    | true =>
      have hp' := hp
      unfold within at hp'
      simp at hp'
      obtain ⟨q, rfl⟩ : ∃ q : Nat, p = (q : Int) := ⟨p.toNat, by omega⟩
      simpa using read_on h hn hk (ht k) q (by omega)
end
end Go.Proofs.Ytfjnjhlmmdeilaa.ChipA
