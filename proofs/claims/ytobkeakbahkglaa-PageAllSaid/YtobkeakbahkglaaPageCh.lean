/- A chip (the page seat): its plain model, and the walks of New, Size, Read and Program. Merged of this project's texts (tools/merge in NOTES). -/
import Derived.Test.YtobkeakbahkglaaProg
import Derived.WalkKit
import Derived.KernelRfl
import Derived.Outline
import Derived.Lib.Hide
import Derived.Deep.WholeRow
import Derived.Deep.QuietTactic
import Derived.BigQuiet
import Derived.StillTailTactics
import Derived.Laws.EntriesVeiled
import Derived.Laws.MakeOwn
set_option linter.unusedVariables false
/- A chip, plainly: what each deed on it comes to. -/
namespace Go.Proofs.Ytobkeakbahkglaa.ChipM

structure Blk where
  text : List ByteArray
  worn : Nat
  bad : Bool
  fails : Option ByteArray
structure Chp where
  n : Nat
  pages : Nat
  data : Nat
  blk : Nat → Blk
  dead : Bool
  fuse : Option (Nat × ByteArray)
def Blk.blank : Blk := ⟨[], 0, false, none⟩
def new (n pages data : Nat) : Chp := ⟨n, pages, data, fun _ => Blk.blank, false, none⟩
def within (n low high : Int) : Bool := decide (low ≤ n) && decide (n ≤ high)
def there (m : Chp) (b : Int) : Bool := within b 0 ((m.n : Int) - 1)
def at_ (m : Chp) (b : Int) : Blk := m.blk b.toNat
def next (m : Chp) (b : Int) : Int := if there m b = true then ((at_ m b).text.length : Int) else 0
def worn (m : Chp) (b : Int) : Int := if there m b = true then ((at_ m b).worn : Int) else 0
def bad (m : Chp) (b : Int) : Bool := !there m b || (at_ m b).bad
def readAt (m : Chp) (b p : Int) : ByteArray × Bool := if there m b = true ∧ within p 0 (((at_ m b).text.length : Int) - 1) = true then ((at_ m b).text.getD p.toNat ⟨#[]⟩, true) else (⟨#[]⟩, false)
def cut (m : Chp) (s : ByteArray) : ByteArray := s.extract 0 (min s.size m.data)
def setB (m : Chp) (b : Nat) (x : Blk) : Chp := { m with blk := fun k => if k = b then x else m.blk k }
def put (m : Chp) (b : Nat) (t : ByteArray) : Chp := setB m b { m.blk b with text := (m.blk b).text ++ [cut m t] }
def blank (m : Chp) (b : Nat) : Chp := setB m b { m.blk b with text := [], worn := (m.blk b).worn + 1 }
def fell (m : Chp) (b : Nat) : Chp := setB m b { m.blk b with bad := true, fails := none }
def dieM (m : Chp) : Chp := { m with dead := true }
def burn (m : Chp) : Chp := { m with fuse := m.fuse.map fun f => (f.1 - 1, f.2) }
/-- A deed: what it does, and what it does where the chip dies, or the block fails. -/
def deed (m : Chp) (b : Nat) (do_ : Chp → Chp) (dies fails : Chp → ByteArray → Chp) : Int × Chp :=
  if (m.blk b).bad = true then (15, m)
  else match m.fuse with
    | some (0, t) => (14, if t.toList.isEmpty = true then dieM m else dies (dieM m) t)
    | _ => match (m.blk b).fails with
      | some t => (15, fell (fails (burn m) t) b)
      | none => (0, do_ (burn m))
def mayPut (m : Chp) (b p : Int) (s : ByteArray) : Bool := there m b && within p 0 ((m.pages : Int) - 1) && decide (s.size ≤ m.data) && decide (p = next m b)
def doProgram (m : Chp) (b p : Int) (s : ByteArray) : Int × Chp :=
  if m.dead = true then (14, m)
  else if mayPut m b p s = true then deed m b.toNat (fun m => put m b.toNat s) (fun m t => put m b.toNat t) (fun m t => put m b.toNat t)
  else (1, m)
def doErase (m : Chp) (b : Int) : Int × Chp :=
  if m.dead = true then (14, m)
  else if there m b = true then deed m b.toNat (fun m => blank m b.toNat) (fun m _ => blank m b.toNat) (fun m _ => m)
  else (1, m)
def fail (m : Chp) (b : Int) (t : ByteArray) : Chp := if there m b = true then setB m b.toNat { m.blk b.toNat with fails := some t } else m
def setFuse (m : Chp) (n : Int) (t : ByteArray) : Chp := { m with fuse := if 0 ≤ n then some ((min n 1073741824).toNat, t) else none }
def revive (m : Chp) : Chp := { m with dead := false, fuse := none }
/-- What holds of every chip: its sizes; no block has more pages than there are; K: how often one was erased, at most. -/
structure Ok (m : Chp) (K : Nat) : Prop where
  n0 : 2 ≤ m.n
  n1 : m.n ≤ 64
  p0 : 2 ≤ m.pages
  p1 : m.pages ≤ 32
  d0 : 32 ≤ m.data
  d1 : m.data ≤ 256
  t : ∀ b, (m.blk b).text.length ≤ m.pages
  w : ∀ b, (m.blk b).worn ≤ K
  f : ∀ n t, m.fuse = some (n, t) → n ≤ 1073741824
end Go.Proofs.Ytobkeakbahkglaa.ChipM
/- What holds of every chip stays so. -/
namespace Go.Proofs.Ytobkeakbahkglaa.ChipM

theorem Ok.mono {m : Chp} {K L : Nat} (h : Ok m K) (hl : K ≤ L) : Ok m L := ⟨h.n0, h.n1, h.p0, h.p1, h.d0, h.d1, h.t, fun b => Nat.le_trans (h.w b) hl, h.f⟩
theorem Ok.setB {m : Chp} {K : Nat} (h : Ok m K) {k : Nat} {x : Blk} (ht : x.text.length ≤ m.pages) (hw : x.worn ≤ K) : Ok (setB m k x) K := by
  refine ⟨h.n0, h.n1, h.p0, h.p1, h.d0, h.d1, fun b => ?_, fun b => ?_, h.f⟩
  · show (if b = k then x else m.blk b).text.length ≤ m.pages
    split
    · exact ht
    · exact h.t b
  · show (if b = k then x else m.blk b).worn ≤ K
    split
    · exact hw
    · exact h.w b
theorem Ok.die {m : Chp} {K : Nat} (h : Ok m K) : Ok (dieM m) K := ⟨h.n0, h.n1, h.p0, h.p1, h.d0, h.d1, h.t, h.w, h.f⟩
theorem Ok.burn {m : Chp} {K : Nat} (h : Ok m K) : Ok (burn m) K := by
  refine ⟨h.n0, h.n1, h.p0, h.p1, h.d0, h.d1, h.t, h.w, fun n t e => ?_⟩
  simp only [ChipM.burn, Option.map_eq_some_iff, Prod.mk.injEq, Prod.exists] at e
  obtain ⟨n', t', e1, e2, e3⟩ := e
  have := h.f n' t' e1
  omega
theorem Ok.put {m : Chp} {K : Nat} (h : Ok m K) {k : Nat} (hl : (m.blk k).text.length < m.pages) (t : ByteArray) : Ok (put m k t) K :=
  h.setB (by simp; omega) (h.w k)
theorem Ok.blank {m : Chp} {K : Nat} (h : Ok m K) (k : Nat) : Ok (blank m k) (K + 1) :=
  (h.mono (Nat.le_succ K)).setB (by simp) (by have := h.w k; simp; omega)
theorem Ok.fell {m : Chp} {K : Nat} (h : Ok m K) (k : Nat) : Ok (fell m k) K := h.setB (h.t k) (h.w k)
/-- A deed keeps it. -/
theorem Ok.deed {m : Chp} {K L : Nat} (h : Ok m K) (hKL : K ≤ L) (k : Nat) (do_ : Chp → Chp) (dies fails : Chp → ByteArray → Chp)
    (hdo : Ok (do_ (ChipM.burn m)) L) (hdies : ∀ t, Ok (dies (dieM m) t) L) (hfails : ∀ t, Ok (fails (ChipM.burn m) t) L) : Ok (deed m k do_ dies fails).2 L := by
  unfold ChipM.deed
  split
  · exact h.mono hKL
  · split
    · show Ok (if _ then dieM m else _) L
      split
      · exact (h.mono hKL).die
      · exact hdies _
    · split
      · exact (hfails _).fell k
      · exact hdo
theorem Ok.program {m : Chp} {K : Nat} (h : Ok m K) (b p : Int) (s : ByteArray) : Ok (doProgram m b p s).2 K := by
  unfold doProgram
  split
  · exact h
  · split
    · rename_i hm
      have hl : (m.blk b.toNat).text.length < m.pages := by
        unfold mayPut next at_ within at hm
        simp only [Bool.and_eq_true, decide_eq_true_eq] at hm
        obtain ⟨⟨⟨ht, hp⟩, _⟩, he⟩ := hm
        rw [if_pos ht] at he
        omega
      exact h.deed (Nat.le_refl K) _ _ _ _ (h.burn.put hl _) (fun t => h.die.put hl t) (fun t => h.burn.put hl t)
    · exact h
theorem Ok.erase {m : Chp} {K : Nat} (h : Ok m K) (b : Int) : Ok (doErase m b).2 (K + 1) := by
  unfold doErase
  split
  · exact h.mono (Nat.le_succ K)
  · split
    · exact h.deed (Nat.le_succ K) _ _ _ _ (h.burn.blank _) (fun _ => h.die.blank _) (fun _ => h.burn.mono (Nat.le_succ K))
    · exact h.mono (Nat.le_succ K)
theorem Ok.fail {m : Chp} {K : Nat} (h : Ok m K) (b : Int) (t : ByteArray) : Ok (fail m b t) K := by
  unfold ChipM.fail
  split
  · exact h.setB (h.t _) (h.w _)
  · exact h
theorem Ok.fuse {m : Chp} {K : Nat} (h : Ok m K) (n : Int) (t : ByteArray) : Ok (setFuse m n t) K := by
  refine ⟨h.n0, h.n1, h.p0, h.p1, h.d0, h.d1, h.t, h.w, fun n' t' e => ?_⟩
  simp only [setFuse] at e
  split at e
  · simp only [Option.some.injEq, Prod.mk.injEq] at e
    omega
  · cases e
theorem Ok.revive {m : Chp} {K : Nat} (h : Ok m K) : Ok (revive m) K := ⟨h.n0, h.n1, h.p0, h.p1, h.d0, h.d1, h.t, h.w, fun _ _ e => by cases e⟩
theorem Ok.new {n p d : Nat} (hn : 2 ≤ n ∧ n ≤ 64) (hp : 2 ≤ p ∧ p ≤ 32) (hd : 32 ≤ d ∧ d ≤ 256) : Ok (new n p d) 0 :=
  ⟨hn.1, hn.2, hp.1, hp.2, hd.1, hd.2, fun _ => Nat.zero_le _, fun _ => Nat.le_refl _, fun _ _ e => by cases e⟩
theorem deed_n {m : Chp} (k : Nat) (do_ : Chp → Chp) (dies fails : Chp → ByteArray → Chp) (hdo : ∀ m, (do_ m).n = m.n) (hdies : ∀ m t, (dies m t).n = m.n) (hfails : ∀ m t, (fails m t).n = m.n) : (deed m k do_ dies fails).2.n = m.n := by
  unfold deed
  split
  · rfl
  · split
    · show (if _ then dieM m else _ : Chp).n = m.n
      split
      · rfl
      · rw [hdies]; rfl
    · split
      · show (fails (burn m) _).n = m.n
        rw [hfails]; rfl
      · show (do_ (burn m)).n = m.n
        rw [hdo]; rfl
end Go.Proofs.Ytobkeakbahkglaa.ChipM
/- A chip in memory; what only reads it. -/
namespace Go.Proofs.Ytobkeakbahkglaa.ChipA
open Go.RowKit Go.Proofs.Ytobkeakbahkglaa.ChipM

def ptr (o : Option Nat) : Value := .pointer (o.map fun k => ⟨k, 0, none⟩)
def chipCells (m : Chp) (bb : Nat) (fz : Option Nat) : Array Value := #[.slice (some ⟨bb, 0, none⟩) m.n m.n, .int .i64 m.pages, .int .i64 m.data, .bool m.dead, ptr fz]
/-- A block's cells, behind a place. -/
structure BlkAt (cs : Array Value) (o : Nat) (x : Blk) (fl : Option Nat) : Prop where
  p : ∀ k, k < 32 → ∃ s, cs[o + k]? = some (.string s)
  t : ∀ k, k < x.text.length → cs[o + k]? = some (.string (x.text.getD k ⟨#[]⟩))
  n : cs[o + 32]? = some (.int .i64 x.text.length)
  w : cs[o + 33]? = some (.int .i64 x.worn)
  b : cs[o + 34]? = some (.bool x.bad)
  f : cs[o + 35]? = some (ptr fl)
structure Own (own : Nat → Prop) (w : World) (m : Chp) (c bb : Nat) (cs : Array Value) (fz : Option Nat) (fl : Nat → Option Nat) : Prop where
  oc : own c
  ob : own bb
  lt : ∀ k, own k → k < w.heap.size
  ne : c ≠ bb
  hc : w.heap[c]? = some (.cells (chipCells m bb fz) 69 (0, 0))
  hb : w.heap[bb]? = some (.cells cs 75 (0, 0))
  bs : ∀ b, b < m.n → BlkAt cs (b * 36) (m.blk b) (fl b)
  f0 : fz = none ↔ m.fuse = none
  f1 : ∀ z, fz = some z → own z ∧ z ≠ c ∧ z ≠ bb ∧ ∃ n t, m.fuse = some (n, t) ∧ w.heap[z]? = some (.cells #[.int .i64 (n : Int), .string t] 90 (0, 0))
  l0 : ∀ b, b < m.n → (fl b = none ↔ (m.blk b).fails = none)
  l1 : ∀ b, b < m.n → ∀ z, fl b = some z → own z ∧ z ≠ c ∧ z ≠ bb ∧ fz ≠ some z ∧ ∃ t, (m.blk b).fails = some t ∧ w.heap[z]? = some (.cells #[.string t] 9 (0, 0))
/-- The chip at block c is as m says. -/
def ChipAt (own : Nat → Prop) (w : World) (c : Nat) (m : Chp) : Prop := ∃ bb cs fz fl, Own own w m c bb cs fz fl

theorem within_any (n low high : Int) (w : World) : Calls Try.prog 30 #[.int .i64 n, .int .i64 low, .int .i64 high] w fun e w' => e = .returned (.bool (within n low high)) ∧ w' = w := by
  unfold within
  cases h1 : decide (low ≤ n) with
  | false =>
    go_enter Try.func30, Try.ntmps30
    go_wp2_with fail
    go_ret
    exact ⟨rfl, rfl⟩
  | true =>
    go_enter Try.func30, Try.ntmps30
    go_wp2_with fail
    go_ret
    exact ⟨rfl, rfl⟩
theorem there_nat (m : Chp) (k : Nat) : there m (k : Int) = decide (k < m.n) := by
  unfold there within
  rw [Bool.eq_iff_iff]
  simp
  omega
theorem there_yes {m : Chp} {k : Nat} (h : k < m.n) : within (k : Int) 0 ((m.n : Int) - 1) = true := by
  have := there_nat m k
  unfold there at this
  rw [this]
  simpa using h
theorem there_of {m : Chp} {b : Int} (h : there m b = true) : ∃ k : Nat, b = (k : Int) ∧ k < m.n := by
  unfold there within at h
  simp at h
  exact ⟨b.toNat, by omega, by omega⟩
section
variable {own : Nat → Prop} {w : World} {m : Chp} {c bb : Nat} {cs : Array Value} {fz : Option Nat} {fl : Nat → Option Nat}
theorem Own.c0 (h : Own own w m c bb cs fz fl) : w.cell? ⟨c, 0, none⟩ = some (.slice (some ⟨bb, 0, none⟩) m.n m.n) := by rw [cell_of_row _ _ _ _ _ _ h.hc]; rfl
theorem Own.c1 (h : Own own w m c bb cs fz fl) : w.cell? ⟨c, 1, none⟩ = some (.int .i64 m.pages) := by rw [cell_of_row _ _ _ _ _ _ h.hc]; rfl
theorem Own.c2 (h : Own own w m c bb cs fz fl) : w.cell? ⟨c, 2, none⟩ = some (.int .i64 m.data) := by rw [cell_of_row _ _ _ _ _ _ h.hc]; rfl
theorem Own.c3 (h : Own own w m c bb cs fz fl) : w.cell? ⟨c, 3, none⟩ = some (.bool m.dead) := by rw [cell_of_row _ _ _ _ _ _ h.hc]; rfl
theorem Own.c4 (h : Own own w m c bb cs fz fl) : w.cell? ⟨c, 4, none⟩ = some (ptr fz) := by rw [cell_of_row _ _ _ _ _ _ h.hc]; rfl
theorem Own.b32 (h : Own own w m c bb cs fz fl) {k : Nat} (hk : k < m.n) : w.cell? ⟨bb, k * 36 + 32, none⟩ = some (.int .i64 (m.blk k).text.length) := by rw [cell_of_row _ _ _ _ _ _ h.hb]; exact (h.bs k hk).n
theorem Own.b33 (h : Own own w m c bb cs fz fl) {k : Nat} (hk : k < m.n) : w.cell? ⟨bb, k * 36 + 33, none⟩ = some (.int .i64 (m.blk k).worn) := by rw [cell_of_row _ _ _ _ _ _ h.hb]; exact (h.bs k hk).w
theorem Own.b34 (h : Own own w m c bb cs fz fl) {k : Nat} (hk : k < m.n) : w.cell? ⟨bb, k * 36 + 34, none⟩ = some (.bool (m.blk k).bad) := by rw [cell_of_row _ _ _ _ _ _ h.hb]; exact (h.bs k hk).b
theorem Own.b35 (h : Own own w m c bb cs fz fl) {k : Nat} (hk : k < m.n) : w.cell? ⟨bb, k * 36 + 35, none⟩ = some (ptr (fl k)) := by rw [cell_of_row _ _ _ _ _ _ h.hb]; exact (h.bs k hk).f
theorem Own.bt (h : Own own w m c bb cs fz fl) {k : Nat} (hk : k < m.n) {p : Nat} (hp : p < (m.blk k).text.length) : w.cell? ⟨bb, k * 36 + p, none⟩ = some (.string ((m.blk k).text.getD p ⟨#[]⟩)) := by rw [cell_of_row _ _ _ _ _ _ h.hb]; exact (h.bs k hk).t p hp
theorem at_yes (h : Own own w m c bb cs fz fl) (hn : m.n ≤ 64) {k : Nat} (hk : k < m.n) :
    Calls Try.prog 31 #[.pointer (some ⟨c, 0, none⟩), .int .i64 (k : Int)] w fun e w' => e = .returned (.pointer (some ⟨bb, k * 36, none⟩)) ∧ w' = w := by
  have hc0 := h.c0
  have hw := within_any (k : Int) 0 ((m.n : Int) - 1)
  rw [there_yes hk] at hw
  clear h
  generalize m.n = n at hc0 hw hn hk
  go_enter Try.func31, Try.ntmps31
  go_wp2_with (go_at_call 30; refine (hw _).mono ?_; rintro e w' ⟨rfl, rfl⟩)
  go_ret
  exact ⟨rfl, rfl⟩
theorem at_no (h : Own own w m c bb cs fz fl) (hn : m.n ≤ 64) {b : Int} (hb : there m b = false) :
    Calls Try.prog 31 #[.pointer (some ⟨c, 0, none⟩), .int .i64 b] w fun e w' => e = .returned (.pointer none) ∧ w' = w := by
  have hc0 := h.c0
  have hw := within_any b 0 ((m.n : Int) - 1)
  unfold there at hb
  rw [hb] at hw
  clear h hb
  generalize m.n = n at hc0 hw hn
  go_enter Try.func31, Try.ntmps31
  go_wp2_with (go_at_call 30; refine (hw _).mono ?_; rintro e w' ⟨rfl, rfl⟩)
  go_ret
  exact ⟨rfl, rfl⟩
theorem size_any (h : Own own w m c bb cs fz fl) :
    Calls Try.prog 46 #[.pointer (some ⟨c, 0, none⟩)] w fun e w' => e = .returned (.tuple #[.int .i64 m.n, .int .i64 m.pages, .int .i64 m.data]) ∧ ∃ n, w' = w.drewN n := by
  have h0 := h.c0
  have h1 := h.c1
  have h2 := h.c2
  clear h
  generalize m.n = n at h0
  generalize m.pages = p at h1
  generalize m.data = d at h2
  go_enter Try.func46, Try.ntmps46
  go_wp2_with fail
  go_quiet (fail)
  go_wp2_with fail
  go_ret3
  exact ⟨rfl, _, rfl⟩
theorem cut_long {s : ByteArray} {d : Nat} (h : d < s.size) : s.extract 0 (min s.size d) = s.extract 0 d := by rw [Nat.min_eq_right (Nat.le_of_lt h)]
theorem cut_short {s : ByteArray} {d : Nat} (h : ¬ d < s.size) : s.extract 0 (min s.size d) = s := by
  rw [Nat.min_eq_left (by omega)]
  apply ByteArray.ext
  simp
theorem cut_any (h : Own own w m c bb cs fz fl) (hd : m.data ≤ 256) (s : ByteArray) :
    Calls Try.prog 33 #[.pointer (some ⟨c, 0, none⟩), .string s] w fun e w' => e = .returned (.string (cut m s)) ∧ w' = w := by
  have h2 := h.c2
  unfold cut
  clear h
  generalize m.data = d at h2 hd
  by_cases hlt : d < s.size
  · rw [cut_long hlt]
    go_enter Try.func33, Try.ntmps33
    go_wp2_with fail
    go_ret
    exact ⟨rfl, rfl⟩
  · rw [cut_short hlt]
    go_enter Try.func33, Try.ntmps33
    go_wp2_with fail
    go_ret
    exact ⟨rfl, rfl⟩
theorem read_no (h : Own own w m c bb cs fz fl) (hn : m.n ≤ 64) {b : Int} (hb : there m b = false) (p : Int) :
    Calls Try.prog 47 #[.pointer (some ⟨c, 0, none⟩), .int .i64 b, .int .i64 p] w fun e w' => e = .returned (.tuple #[.string ⟨#[]⟩, .bool false]) ∧ w' = w := by
  have ca := at_no h hn hb
  clear h hb hn
  go_enter Try.func47, Try.ntmps47
  go_wp2_with (go_at_call 31; refine ca.mono ?_; rintro e w' ⟨rfl, rfl⟩)
  go_ret2
  exact ⟨rfl, rfl⟩
theorem read_off (h : Own own w m c bb cs fz fl) (hn : m.n ≤ 64) {k : Nat} (hk : k < m.n) (ht : (m.blk k).text.length ≤ 32) (p : Int) (hp : within p 0 (((m.blk k).text.length : Int) - 1) = false) :
    Calls Try.prog 47 #[.pointer (some ⟨c, 0, none⟩), .int .i64 (k : Int), .int .i64 p] w fun e w' => e = .returned (.tuple #[.string ⟨#[]⟩, .bool false]) ∧ w' = w := by
  have ca := at_yes h hn hk
  have hc := h.b32 hk
  have hw := within_any p 0 (((m.blk k).text.length : Int) - 1)
  rw [hp] at hw
  generalize (m.blk k).text.length = v at hc hw ht
  generalize k * 36 = o at ca hc
  clear h hn hk hp
  go_enter Try.func47, Try.ntmps47
  go_wp2_with (first
    | (go_at_call 31; refine ca.mono ?_; rintro e w' ⟨rfl, rfl⟩)
    | (go_at_call 30; refine (hw _).mono ?_; rintro e w' ⟨rfl, rfl⟩))
  go_ret2
  exact ⟨rfl, rfl⟩
theorem read_on (h : Own own w m c bb cs fz fl) (hn : m.n ≤ 64) {k : Nat} (hk : k < m.n) (ht : (m.blk k).text.length ≤ 32) (p : Nat) (hp : p < (m.blk k).text.length) :
    Calls Try.prog 47 #[.pointer (some ⟨c, 0, none⟩), .int .i64 (k : Int), .int .i64 (p : Int)] w fun e w' => e = .returned (.tuple #[.string ((m.blk k).text.getD p ⟨#[]⟩), .bool true]) ∧ w' = w := by
  have ca := at_yes h hn hk
  have hc := h.b32 hk
  have ht2 := h.bt hk hp
  have hw := within_any (p : Int) 0 (((m.blk k).text.length : Int) - 1)
  have hp2 : within (p : Int) 0 (((m.blk k).text.length : Int) - 1) = true := by unfold within; simp; omega
  rw [hp2] at hw
  have hp3 : p < 32 := by omega
  generalize (m.blk k).text.getD p ⟨#[]⟩ = s at ht2
  generalize (m.blk k).text.length = v at hc hw ht
  generalize k * 36 = o at ca hc ht2
  clear h hn hk hp hp2
  go_enter Try.func47, Try.ntmps47
  go_wp2_with (first
    | (go_at_call 31; refine ca.mono ?_; rintro e w' ⟨rfl, rfl⟩)
    | (go_at_call 30; refine (hw _).mono ?_; rintro e w' ⟨rfl, rfl⟩))
  go_ret2
  exact ⟨rfl, rfl⟩
theorem read_any (h : Own own w m c bb cs fz fl) (hn : m.n ≤ 64) (ht : ∀ k, (m.blk k).text.length ≤ 32) (b p : Int) :
    Calls Try.prog 47 #[.pointer (some ⟨c, 0, none⟩), .int .i64 b, .int .i64 p] w fun e w' => e = .returned (.tuple #[.string (readAt m b p).1, .bool (readAt m b p).2]) ∧ w' = w := by
  unfold readAt
  cases hb : there m b with
  | false => simpa using read_no h hn hb p
  | true =>
    obtain ⟨k, rfl, hk⟩ := there_of hb
    unfold at_
    simp only [Int.toNat_natCast, true_and]
    cases hp : within p 0 (((m.blk k).text.length : Int) - 1) with
    | false => simpa using read_off h hn hk (ht k) p hp
    | true =>
      have hp' := hp
      unfold within at hp'
      simp at hp'
      obtain ⟨q, rfl⟩ : ∃ q : Nat, p = (q : Int) := ⟨p.toNat, by omega⟩
      simpa using read_on h hn hk (ht k) q (by omega)
end
end Go.Proofs.Ytobkeakbahkglaa.ChipA
/- What becomes of a chip in memory, store by store. -/
namespace Go.Proofs.Ytobkeakbahkglaa.ChipA
open Go.RowKit Go.Proofs.Ytobkeakbahkglaa.ChipM

/-- But for the blocks of 'own', all that was there is as it was. -/
structure Foot (own : Nat → Prop) (w w' : World) : Prop where
  os : w'.os = w.os
  tape : w'.tape = w.tape
  output : w'.output = w.output
  size : w.heap.size ≤ w'.heap.size
  block : ∀ k, k < w.heap.size → ¬ own k → w'.heap[k]? = w.heap[k]?
theorem Foot.refl (own : Nat → Prop) (w : World) : Foot own w w := ⟨rfl, rfl, rfl, Nat.le_refl _, fun _ _ _ => rfl⟩
theorem Foot.trans {own : Nat → Prop} {a b c : World} (h : Foot own a b) (k : Foot own b c) : Foot own a c :=
  ⟨k.os.trans h.os, k.tape.trans h.tape, k.output.trans h.output, Nat.le_trans h.size k.size, fun i hi ho => (k.block i (Nat.lt_of_lt_of_le hi h.size) ho).trans (h.block i hi ho)⟩
theorem Foot.of_below {own : Nat → Prop} {w w' : World} (h : Below w.heap.size w w') : Foot own w w' := ⟨h.os, h.tape, h.output, h.size, fun k hk _ => h.block k hk⟩
theorem Foot.alloc (own : Nat → Prop) (w : World) (o : Obj) : Foot own w (w.alloc o) := Foot.of_below ((Below.refl _ _).alloc (Nat.le_refl _) o)
theorem Foot.drewN (own : Nat → Prop) (w : World) (n : Nat) : Foot own w (w.drewN n) := ⟨rfl, rfl, rfl, Nat.le_refl _, fun _ _ _ => rfl⟩
theorem Foot.drew (own : Nat → Prop) (w : World) : Foot own w w.drew := ⟨rfl, rfl, rfl, Nat.le_refl _, fun _ _ _ => rfl⟩
theorem Foot.setCell {own : Nat → Prop} (w : World) (a : Addr) (v : Value) (h : own a.block) : Foot own w (w.setCell a v) :=
  ⟨rfl, rfl, rfl, by simp [World.setCell], fun k _ ho => heap_setCell_other _ _ _ _ (fun e => ho (e ▸ h))⟩
theorem Foot.wider {own own2 : Nat → Prop} {w w' : World} (h : Foot own w w') (hs : ∀ k, k < w.heap.size → own k → own2 k) : Foot own2 w w' :=
  ⟨h.os, h.tape, h.output, h.size, fun k hk ho => h.block k hk (fun x => ho (hs k hk x))⟩
/-- Where nothing of what is owned was there: below, all is as it was. -/
theorem Foot.below {own : Nat → Prop} {w w' : World} {B : Nat} (h : Foot own w w') (hB : B ≤ w.heap.size) (ho : ∀ k, own k → B ≤ k) : Below B w w' :=
  ⟨h.os, h.tape, h.output, h.size, fun k hk => h.block k (by omega) (fun x => by have := ho k x; omega)⟩

section
variable {own : Nat → Prop} {w w' : World} {m : Chp} {c bb : Nat} {cs : Array Value} {fz : Option Nat} {fl : Nat → Option Nat}
theorem Own.same (h : Own own w m c bb cs fz fl) (hs : w.heap.size ≤ w'.heap.size) (hk : ∀ k, own k → w'.heap[k]? = w.heap[k]?) : Own own w' m c bb cs fz fl :=
  { oc := h.oc, ob := h.ob, lt := fun k ho => Nat.lt_of_lt_of_le (h.lt k ho) hs, ne := h.ne
    hc := (hk _ h.oc).trans h.hc, hb := (hk _ h.ob).trans h.hb, bs := h.bs, f0 := h.f0
    f1 := fun z hz => by
      obtain ⟨o, n1, n2, n, t, e, hh⟩ := h.f1 z hz
      exact ⟨o, n1, n2, n, t, e, (hk _ o).trans hh⟩
    l0 := h.l0
    l1 := fun b hb z hz => by
      obtain ⟨o, n1, n2, n3, t, e, hh⟩ := h.l1 b hb z hz
      exact ⟨o, n1, n2, n3, t, e, (hk _ o).trans hh⟩ }
theorem Own.keep {own2 : Nat → Prop} (h : Own own w m c bb cs fz fl) (hf : Foot own2 w w') (hd : ∀ k, own k → ¬ own2 k) : Own own w' m c bb cs fz fl :=
  h.same hf.size fun k ho => hf.block k (h.lt k ho) (hd k ho)
theorem Own.alloc (h : Own own w m c bb cs fz fl) (o : Obj) : Own own (w.alloc o) m c bb cs fz fl :=
  h.same (by simp) fun k ho => Below.heap_alloc _ _ _ (h.lt k ho)
theorem Own.drewN (h : Own own w m c bb cs fz fl) (n : Nat) : Own own (w.drewN n) m c bb cs fz fl := h.same (Nat.le_refl _) fun _ _ => rfl
theorem Own.drew (h : Own own w m c bb cs fz fl) : Own own w.drew m c bb cs fz fl := h.same (Nat.le_refl _) fun _ _ => rfl
/-- A store into a block that is none of the chip's. -/
theorem Own.other (h : Own own w m c bb cs fz fl) (a : Addr) (v : Value) (ha : ¬ own a.block) : Own own (w.setCell a v) m c bb cs fz fl :=
  h.same (by simp [World.setCell]) fun k ho => heap_setCell_other _ _ _ _ (fun e => ha (e ▸ ho))
theorem setCell_size (w : World) (a : Addr) (v : Value) : (w.setCell a v).heap.size = w.heap.size := by simp [World.setCell]
/-- The chip's own cells are turned. -/
theorem Own.turnC (h : Own own w m c bb cs fz fl) {m' : Chp} {fz' : Option Nat} (hs : w.heap.size ≤ w'.heap.size) (hk : ∀ k, own k → k ≠ c → w'.heap[k]? = w.heap[k]?)
    (hc : w'.heap[c]? = some (.cells (chipCells m' bb fz') 69 (0, 0))) (hn : m'.n = m.n) (hb : m'.blk = m.blk)
    (f : fz' = none ∧ m'.fuse = none ∨ fz' = fz ∧ m'.fuse = m.fuse ∨ ∃ z n t, fz' = some z ∧ m'.fuse = some (n, t) ∧ own z ∧ z ≠ c ∧ z ≠ bb ∧ (∀ b, b < m.n → fl b ≠ some z) ∧ w'.heap[z]? = some (.cells #[.int .i64 (n : Int), .string t] 90 (0, 0))) : Own own w' m' c bb cs fz' fl :=
  { oc := h.oc, ob := h.ob, lt := fun k ho => Nat.lt_of_lt_of_le (h.lt k ho) hs, ne := h.ne
    hc := hc, hb := (hk _ h.ob h.ne.symm).trans h.hb, bs := by rw [hn, hb]; exact h.bs
    f0 := by
      rcases f with ⟨rfl, e⟩ | ⟨rfl, e⟩ | ⟨z, n, t, rfl, e, _⟩
      · simp [e]
      · rw [e]; exact h.f0
      · simp [e]
    f1 := fun z hz => by
      rcases f with ⟨rfl, e⟩ | ⟨rfl, e⟩ | ⟨y, n, t, rfl, e, o, n1, n2, _, hh⟩
      · cases hz
      · obtain ⟨o, n1, n2, n, t, e2, hh⟩ := h.f1 z hz
        exact ⟨o, n1, n2, n, t, e.trans e2, (hk _ o n1).trans hh⟩
      · obtain rfl := Option.some.inj hz
        exact ⟨o, n1, n2, n, t, e, hh⟩
    l0 := by rw [hn, hb]; exact h.l0
    l1 := fun b hb2 z hz => by
      rw [hn] at hb2
      obtain ⟨o, n1, n2, n3, t, e, hh⟩ := h.l1 b hb2 z hz
      refine ⟨o, n1, n2, ?_, t, by rw [hb]; exact e, (hk _ o n1).trans hh⟩
      rcases f with ⟨rfl, _⟩ | ⟨rfl, _⟩ | ⟨y, _, _, rfl, _, _, _, _, hne, _⟩
      · simp
      · exact n3
      · intro e2
        obtain rfl := Option.some.inj e2
        exact hne b hb2 hz }
theorem Own.dead (h : Own own w m c bb cs fz fl) (d : Bool) : Own own (w.setCell ⟨c, 3, none⟩ (.bool d)) { m with dead := d } c bb cs fz fl :=
  h.turnC (by rw [setCell_size]; exact Nat.le_refl _) (fun k _ hk => heap_setCell_other _ _ _ _ hk) (by rw [heap_setCell_same _ _ _ _ _ _ h.hc]; rfl) rfl rfl (Or.inr (Or.inl ⟨rfl, rfl⟩))
theorem Own.unfuse (h : Own own w m c bb cs fz fl) : Own own (w.setCell ⟨c, 4, none⟩ (.pointer none)) { m with fuse := none } c bb cs none fl :=
  h.turnC (by rw [setCell_size]; exact Nat.le_refl _) (fun k _ hk => heap_setCell_other _ _ _ _ hk) (by rw [heap_setCell_same _ _ _ _ _ _ h.hc]; rfl) rfl rfl (Or.inl ⟨rfl, rfl⟩)
theorem Own.burn (h : Own own w m c bb cs fz fl) {z : Nat} (hz : fz = some z) {n : Nat} {t : ByteArray} (hf : m.fuse = some (n + 1, t)) : Own own (w.setCell ⟨z, 0, none⟩ (.int .i64 (n : Int))) (burn m) c bb cs fz fl := by
  obtain ⟨o, n1, n2, n', t', e2, hh⟩ := h.f1 z hz
  rw [hf] at e2
  simp only [Option.some.injEq, Prod.mk.injEq] at e2
  obtain ⟨rfl, rfl⟩ := e2
  refine { oc := h.oc, ob := h.ob, lt := fun k ho => by rw [setCell_size]; exact h.lt k ho, ne := h.ne, hc := ?_, hb := ?_, bs := h.bs, f0 := ?_, f1 := fun z' hz' => ?_, l0 := h.l0, l1 := fun b hb z' hz' => ?_ }
  · rw [heap_setCell_other _ _ _ _ n1.symm]; exact h.hc
  · rw [heap_setCell_other _ _ _ _ n2.symm]; exact h.hb
  · rw [h.f0, hf]; simp [ChipM.burn, hf]
  · obtain rfl : z' = z := by rw [hz] at hz'; exact (Option.some.inj hz').symm
    refine ⟨o, n1, n2, n, t, by simp [ChipM.burn, hf], ?_⟩
    rw [heap_setCell_same _ _ _ _ _ _ hh]
    rfl
  · obtain ⟨o', m1, m2, m3, t', e, hh'⟩ := h.l1 b hb z' hz'
    refine ⟨o', m1, m2, m3, t', e, ?_⟩
    rw [heap_setCell_other _ _ _ _ (fun e => m3 (by rw [hz]; exact congrArg some e.symm))]
    exact hh'
/-- The blocks' cells are turned: one block's alone. -/
theorem Own.turnB (h : Own own w m c bb cs fz fl) {k : Nat} (hk : k < m.n) {x : Blk} {cs' : Array Value} {g : Option Nat} (hs : w.heap.size ≤ w'.heap.size) (hkk : ∀ k, own k → k ≠ bb → w'.heap[k]? = w.heap[k]?)
    (hb : w'.heap[bb]? = some (.cells cs' 75 (0, 0))) (hx : BlkAt cs' (k * 36) x g) (ho : ∀ i, (i < k * 36 ∨ k * 36 + 36 ≤ i) → cs'[i]? = cs[i]?)
    (hg : g = none ∧ x.fails = none ∨ g = fl k ∧ x.fails = (m.blk k).fails ∨ ∃ z t, g = some z ∧ x.fails = some t ∧ own z ∧ z ≠ c ∧ z ≠ bb ∧ fz ≠ some z ∧ w'.heap[z]? = some (.cells #[.string t] 9 (0, 0))) : Own own w' (setB m k x) c bb cs' fz (fun b => if b = k then g else fl b) := by
  have ob : ∀ b, b < m.n → b ≠ k → BlkAt cs' (b * 36) (m.blk b) (fl b) := fun b hb2 hne => by
    have hB := h.bs b hb2
    have hi : ∀ i, i < 36 → cs'[b * 36 + i]? = cs[b * 36 + i]? := fun i hi => ho _ (by omega)
    refine ⟨fun q hq => by rw [hi q (by omega)]; exact hB.p q hq, fun q hq => ?_, by rw [hi _ (by omega)]; exact hB.n, by rw [hi _ (by omega)]; exact hB.w, by rw [hi _ (by omega)]; exact hB.b, by rw [hi _ (by omega)]; exact hB.f⟩
    by_cases hq2 : q < 36
    · rw [hi q hq2]; exact hB.t q hq
    · exfalso
      have e1 := hB.t 32 (by omega)
      rw [hB.n] at e1
      cases e1
  refine { oc := h.oc, ob := h.ob, lt := fun k ho => Nat.lt_of_lt_of_le (h.lt k ho) hs, ne := h.ne, hc := (hkk _ h.oc h.ne).trans h.hc, hb := hb, bs := fun b hb2 => ?_, f0 := h.f0, f1 := fun z hz => ?_, l0 := fun b hb2 => ?_, l1 := fun b hb2 z hz => ?_ }
  · by_cases e : b = k
    · subst e
      simpa [setB] using hx
    · simpa [setB, e] using ob b hb2 e
  · obtain ⟨o, n1, n2, n, t, e2, hh⟩ := h.f1 z hz
    exact ⟨o, n1, n2, n, t, e2, (hkk _ o n2).trans hh⟩
  · by_cases e : b = k
    · subst e
      rcases hg with ⟨rfl, e2⟩ | ⟨rfl, e2⟩ | ⟨z, t, rfl, e2, _⟩
      · simp [setB, e2]
      · simp [setB, e2, h.l0 b hk]
      · simp [setB, e2]
    · simpa [setB, e] using h.l0 b hb2
  · by_cases e : b = k
    · subst e
      rcases hg with ⟨rfl, e2⟩ | ⟨rfl, e2⟩ | ⟨y, t, rfl, e2, o, n1, n2, n3, hh⟩
      · simp at hz
      · simp only [if_true] at hz
        obtain ⟨o, n1, n2, n3, t, e3, hh⟩ := h.l1 b hk z hz
        exact ⟨o, n1, n2, n3, t, by simp [setB, e2, e3], (hkk _ o n2).trans hh⟩
      · simp only [if_true, Option.some.injEq] at hz
        subst hz
        exact ⟨o, n1, n2, n3, t, by simp [setB, e2], hh⟩
    · simp only [e, if_false] at hz
      obtain ⟨o, n1, n2, n3, t, e3, hh⟩ := h.l1 b hb2 z hz
      exact ⟨o, n1, n2, n3, t, by simp [setB, e, e3], (hkk _ o n2).trans hh⟩
theorem Own.wider {own2 : Nat → Prop} (h : Own own w m c bb cs fz fl) (hs : ∀ k, own k → own2 k) (hl : ∀ k, own2 k → k < w.heap.size) : Own own2 w m c bb cs fz fl :=
  { oc := hs _ h.oc, ob := hs _ h.ob, lt := hl, ne := h.ne, hc := h.hc, hb := h.hb, bs := h.bs, f0 := h.f0
    f1 := fun z hz => by
      obtain ⟨o, r⟩ := h.f1 z hz
      exact ⟨hs _ o, r⟩
    l0 := h.l0
    l1 := fun b hb z hz => by
      obtain ⟨o, r⟩ := h.l1 b hb z hz
      exact ⟨hs _ o, r⟩ }
/-- With the next block, too. -/
def more (own : Nat → Prop) (w : World) (k : Nat) : Prop := own k ∨ k = w.heap.size
theorem Own.grow (h : Own own w m c bb cs fz fl) (o : Obj) : Own (more own w) (w.alloc o) m c bb cs fz fl :=
  (h.alloc o).wider (fun _ hk => Or.inl hk) fun k hk => by
    rcases hk with hk | rfl
    · have := h.lt k hk; simp; omega
    · simp
theorem Own.fuse (h : Own own w m c bb cs fz fl) (n : Nat) (t : ByteArray) :
    Own (more own w) ((w.alloc (.cells #[.int .i64 (n : Int), .string t] 90)).setCell ⟨c, 4, none⟩ (.pointer (some ⟨w.heap.size, 0, none⟩))) { m with fuse := some (n, t) } c bb cs (some w.heap.size) fl := by
  have hg := h.grow (.cells #[.int .i64 (n : Int), .string t] 90)
  have hc := h.lt _ h.oc
  have hb := h.lt _ h.ob
  refine hg.turnC (by rw [setCell_size]; exact Nat.le_refl _) (fun k _ hk => heap_setCell_other _ _ _ _ hk) (by rw [heap_setCell_same _ _ _ _ _ _ hg.hc]; rfl) rfl rfl (Or.inr (Or.inr ⟨_, n, t, rfl, rfl, Or.inr rfl, by omega, by omega, fun b hb2 e => ?_, ?_⟩))
  · have := h.lt _ (h.l1 b hb2 _ e).1
    omega
  · rw [heap_setCell_other _ _ _ _ (by show w.heap.size ≠ c; omega)]
    exact heap_alloc_new _ _
theorem Own.fail (h : Own own w m c bb cs fz fl) {k : Nat} (hk : k < m.n) (t : ByteArray) :
    ∃ cs' fl', Own (more own w) ((w.alloc (.cells #[.string t] 9)).setCell ⟨bb, k * 36 + 35, none⟩ (.pointer (some ⟨w.heap.size, 0, none⟩))) (setB m k { m.blk k with fails := some t }) c bb cs' fz fl' := by
  have hg := h.grow (.cells #[.string t] 9)
  have hc := h.lt _ h.oc
  have hb := h.lt _ h.ob
  have hB := h.bs k hk
  have hf : k * 36 + 36 ≤ cs.size := by
    have := (Array.getElem?_eq_some_iff.1 hB.f).1
    omega
  have hl : (m.blk k).text.length ≤ 32 := by
    by_cases hl : (m.blk k).text.length ≤ 32
    · exact hl
    · exfalso
      have e1 := hB.t 32 (by omega)
      rw [hB.n] at e1
      cases e1
  have hgt : ∀ j, (cs.setIfInBounds (k * 36 + 35) (.pointer (some ⟨w.heap.size, 0, none⟩)))[j]? = if k * 36 + 35 = j then some (.pointer (some ⟨w.heap.size, 0, none⟩)) else cs[j]? := fun j => by
    rw [Array.getElem?_setIfInBounds]
    by_cases e : k * 36 + 35 = j
    · rw [if_pos e, if_pos (by omega), if_pos e]
    · rw [if_neg e, if_neg e]
  refine ⟨_, _, hg.turnB (x := { m.blk k with fails := some t }) (g := some w.heap.size) hk (by rw [setCell_size]; exact Nat.le_refl _) (fun j _ hj => heap_setCell_other _ _ _ _ hj) (heap_setCell_same _ _ _ _ _ _ hg.hb)
    ⟨fun q hq => ?_, fun q hq => ?_, ?_, ?_, ?_, ?_⟩ (fun i hi => by rw [hgt, if_neg (by omega)]) (Or.inr (Or.inr ⟨_, t, rfl, rfl, Or.inr rfl, by omega, by omega, fun e => ?_, ?_⟩))⟩
  · rw [hgt, if_neg (by omega)]; exact hB.p q hq
  · simp only at hq
    rw [hgt, if_neg (by omega)]; exact hB.t q hq
  · rw [hgt, if_neg (by omega)]; exact hB.n
  · rw [hgt, if_neg (by omega)]; exact hB.w
  · rw [hgt, if_neg (by omega)]; exact hB.b
  · rw [hgt, if_pos rfl]; rfl
  · have := h.lt _ (h.f1 _ e).1
    omega
  · rw [heap_setCell_other _ _ _ _ (by show w.heap.size ≠ bb; omega)]
    exact heap_alloc_new _ _
/-! ### Single deeds on a block's cells -/
theorem get_set {cs : Array Value} {i : Nat} (hi : i < cs.size) (v : Value) (j : Nat) : (cs.setIfInBounds i v)[j]? = if i = j then some v else cs[j]? := by
  rw [Array.getElem?_setIfInBounds]
  by_cases e : i = j
  · rw [if_pos e, if_pos hi, if_pos e]
  · rw [if_neg e, if_neg e]
theorem Own.fits (h : Own own w m c bb cs fz fl) {k : Nat} (hk : k < m.n) : k * 36 + 36 ≤ cs.size := by
  have := (Array.getElem?_eq_some_iff.1 (h.bs k hk).f).1
  omega
theorem upd_self (k : Nat) (fl : Nat → Option Nat) : (fun b => if b = k then fl k else fl b) = fl := by
  funext b
  by_cases e : b = k
  · rw [if_pos e, e]
  · rw [if_neg e]
def putW (w : World) (bb k p : Nat) (s : ByteArray) : World := (w.setCell ⟨bb, k * 36 + p, none⟩ (.string s)).setCell ⟨bb, k * 36 + 32, none⟩ (.int .i64 ((p + 1 : Nat) : Int))
theorem Own.put (h : Own own w m c bb cs fz fl) {k : Nat} (hk : k < m.n) (hp : (m.blk k).text.length < 32) (s : ByteArray) :
    ∃ cs', Own own (putW w bb k (m.blk k).text.length s) (setB m k { m.blk k with text := (m.blk k).text ++ [s] }) c bb cs' fz fl := by
  have hf := h.fits hk
  have hB := h.bs k hk
  have e1 := heap_setCell_same _ _ (k * 36 + (m.blk k).text.length) _ _ (.string s) h.hb
  have e2 := heap_setCell_same _ _ (k * 36 + 32) _ _ (.int .i64 (((m.blk k).text.length + 1 : Nat) : Int)) e1
  have hg : ∀ j, ((cs.setIfInBounds (k * 36 + (m.blk k).text.length) (.string s)).setIfInBounds (k * 36 + 32) (.int .i64 (((m.blk k).text.length + 1 : Nat) : Int)))[j]? = if k * 36 + 32 = j then some (.int .i64 (((m.blk k).text.length + 1 : Nat) : Int)) else if k * 36 + (m.blk k).text.length = j then some (.string s) else cs[j]? := fun j => by
    rw [get_set (by rw [Array.size_setIfInBounds]; omega), get_set (by omega)]
  refine ⟨(cs.setIfInBounds (k * 36 + (m.blk k).text.length) (.string s)).setIfInBounds (k * 36 + 32) (.int .i64 (((m.blk k).text.length + 1 : Nat) : Int)), ?_⟩
  have := h.turnB (w' := putW w bb k (m.blk k).text.length s) (x := { m.blk k with text := (m.blk k).text ++ [s] }) (g := fl k) hk (by unfold putW; rw [setCell_size, setCell_size]; exact Nat.le_refl _)
    (fun j _ hj => by unfold putW; rw [heap_setCell_other _ _ _ _ hj, heap_setCell_other _ _ _ _ hj]) e2
    ⟨fun q hq => ?_, fun q hq => ?_, ?_, ?_, ?_, ?_⟩ (fun i hi => by rw [hg, if_neg (by omega), if_neg (by omega)]) (Or.inr (Or.inl ⟨rfl, rfl⟩))
  · rwa [upd_self] at this
  · rw [hg, if_neg (by omega)]
    by_cases e : q = (m.blk k).text.length
    · rw [if_pos (by omega)]; exact ⟨_, rfl⟩
    · rw [if_neg (by omega)]; exact hB.p q hq
  · simp only [List.length_append, List.length_singleton] at hq
    rw [hg, if_neg (by omega)]
    by_cases e : q = (m.blk k).text.length
    · rw [if_pos (by omega)]; subst e; simp
    · rw [if_neg (by omega), hB.t q (by omega)]
      simp [List.getD_eq_getElem?_getD, List.getElem?_append_left (show q < (m.blk k).text.length by omega)]
  · rw [hg, if_pos rfl]; simp
  · rw [hg, if_neg (by omega), if_neg (by omega)]; exact hB.w
  · rw [hg, if_neg (by omega), if_neg (by omega)]; exact hB.b
  · rw [hg, if_neg (by omega), if_neg (by omega)]; exact hB.f
def fellW (w : World) (bb k : Nat) : World := (w.setCell ⟨bb, k * 36 + 34, none⟩ (.bool true)).setCell ⟨bb, k * 36 + 35, none⟩ (.pointer none)
theorem Own.fell (h : Own own w m c bb cs fz fl) {k : Nat} (hk : k < m.n) : ∃ cs' fl', Own own (fellW w bb k) (fell m k) c bb cs' fz fl' := by
  have hf := h.fits hk
  have hB := h.bs k hk
  have hl : (m.blk k).text.length ≤ 32 := by
    by_cases hl : (m.blk k).text.length ≤ 32
    · exact hl
    · exfalso
      have e1 := hB.t 32 (by omega)
      rw [hB.n] at e1
      cases e1
  have e1 := heap_setCell_same _ _ (k * 36 + 34) _ _ (.bool true) h.hb
  have e2 := heap_setCell_same _ _ (k * 36 + 35) _ _ (.pointer none) e1
  have hg : ∀ j, ((cs.setIfInBounds (k * 36 + 34) (.bool true)).setIfInBounds (k * 36 + 35) (.pointer none))[j]? = if k * 36 + 35 = j then some (.pointer none) else if k * 36 + 34 = j then some (.bool true) else cs[j]? := fun j => by
    rw [get_set (by rw [Array.size_setIfInBounds]; omega), get_set (by omega)]
  refine ⟨_, _, h.turnB (w' := fellW w bb k) (x := { m.blk k with bad := true, fails := none }) (g := none) hk (by unfold fellW; rw [setCell_size, setCell_size]; exact Nat.le_refl _)
    (fun j _ hj => by unfold fellW; rw [heap_setCell_other _ _ _ _ hj, heap_setCell_other _ _ _ _ hj]) e2
    ⟨fun q hq => ?_, fun q hq => ?_, ?_, ?_, ?_, ?_⟩ (fun i hi => by rw [hg, if_neg (by omega), if_neg (by omega)]) (Or.inl ⟨rfl, rfl⟩)⟩
  · rw [hg, if_neg (by omega), if_neg (by omega)]; exact hB.p q hq
  · simp only at hq
    rw [hg, if_neg (by omega), if_neg (by omega)]; exact hB.t q hq
  · rw [hg, if_neg (by omega), if_neg (by omega)]; exact hB.n
  · rw [hg, if_neg (by omega), if_neg (by omega)]; exact hB.w
  · rw [hg, if_neg (by omega), if_pos rfl]
  · rw [hg, if_pos rfl]; rfl
theorem Own.len (h : Own own w m c bb cs fz fl) {k : Nat} (hk : k < m.n) : (m.blk k).text.length ≤ 32 := by
  have hB := h.bs k hk
  by_cases hl : (m.blk k).text.length ≤ 32
  · exact hl
  · exfalso
    have e1 := hB.t 32 (by omega)
    rw [hB.n] at e1
    cases e1
/-- A block's cells, its pages blank. -/
def blankRow (cs : Array Value) (k : Nat) : Array Value := (cs.toList.take (k * 36) ++ List.replicate 32 (Value.string ⟨#[]⟩) ++ cs.toList.drop (k * 36 + 32)).toArray
theorem blankRow_size {cs : Array Value} {k : Nat} (h : k * 36 + 36 ≤ cs.size) : (blankRow cs k).size = cs.size := by
  simp [blankRow]
  omega
theorem blankRow_get {cs : Array Value} {k : Nat} (h : k * 36 + 36 ≤ cs.size) (j : Nat) : (blankRow cs k)[j]? = if k * 36 ≤ j ∧ j < k * 36 + 32 then some (.string ⟨#[]⟩) else cs[j]? := by
  unfold blankRow
  rw [List.getElem?_toArray, List.append_assoc, List.getElem?_append]
  have hl : (cs.toList.take (k * 36)).length = k * 36 := by simp; omega
  rw [hl]
  by_cases h1 : j < k * 36
  · rw [if_pos h1, if_neg (by omega), List.getElem?_take, if_pos h1]
    simp
  · rw [if_neg h1, List.getElem?_append, List.length_replicate]
    by_cases h2 : j - k * 36 < 32
    · rw [if_pos h2, if_pos (by omega), List.getElem?_replicate, if_pos h2]
    · rw [if_neg h2, if_neg (by omega), List.getElem?_drop, show k * 36 + 32 + (j - k * 36 - 32) = j by omega]
      simp
def blankW (w : World) (bb k : Nat) (cs : Array Value) (n : Nat) : World := ((w.setRow bb (blankRow cs k)).setCell ⟨bb, k * 36 + 32, none⟩ (.int .i64 0)).setCell ⟨bb, k * 36 + 33, none⟩ (.int .i64 ((n + 1 : Nat) : Int))
theorem Own.blank (h : Own own w m c bb cs fz fl) {k : Nat} (hk : k < m.n) : ∃ cs', Own own (blankW w bb k cs (m.blk k).worn) (ChipM.blank m k) c bb cs' fz fl := by
  have hf := h.fits hk
  have hB := h.bs k hk
  have e0 := setRow_heap w bb cs (blankRow cs k) _ _ h.hb
  have e1 := heap_setCell_same _ _ (k * 36 + 32) _ _ (.int .i64 0) e0
  have e2 := heap_setCell_same _ _ (k * 36 + 33) _ _ (.int .i64 (((m.blk k).worn + 1 : Nat) : Int)) e1
  have hg : ∀ j, (((blankRow cs k).setIfInBounds (k * 36 + 32) (.int .i64 0)).setIfInBounds (k * 36 + 33) (.int .i64 (((m.blk k).worn + 1 : Nat) : Int)))[j]? = if k * 36 + 33 = j then some (.int .i64 (((m.blk k).worn + 1 : Nat) : Int)) else if k * 36 + 32 = j then some (.int .i64 0) else if k * 36 ≤ j ∧ j < k * 36 + 32 then some (.string ⟨#[]⟩) else cs[j]? := fun j => by
    rw [get_set (by rw [Array.size_setIfInBounds, blankRow_size hf]; omega), get_set (by rw [blankRow_size hf]; omega), blankRow_get hf]
  refine ⟨((blankRow cs k).setIfInBounds (k * 36 + 32) (.int .i64 0)).setIfInBounds (k * 36 + 33) (.int .i64 (((m.blk k).worn + 1 : Nat) : Int)), ?_⟩
  have := h.turnB (w' := blankW w bb k cs (m.blk k).worn) (x := { m.blk k with text := [], worn := (m.blk k).worn + 1 }) (g := fl k) hk (by unfold blankW; rw [setCell_size, setCell_size, size_setRow]; exact Nat.le_refl _)
    (fun j _ hj => by unfold blankW; rw [heap_setCell_other _ _ _ _ hj, heap_setCell_other _ _ _ _ hj, setRow_other _ _ _ _ hj]) e2
    ⟨fun q hq => ?_, fun q hq => ?_, ?_, ?_, ?_, ?_⟩ (fun i hi => by rw [hg, if_neg (by omega), if_neg (by omega), if_neg (by omega)]) (Or.inr (Or.inl ⟨rfl, rfl⟩))
  · rwa [upd_self] at this
  · rw [hg, if_neg (by omega), if_neg (by omega), if_pos (by omega)]; exact ⟨_, rfl⟩
  · simp at hq
  · rw [hg, if_neg (by omega), if_pos rfl]; rfl
  · rw [hg, if_pos rfl]
  · rw [hg, if_neg (by omega), if_neg (by omega), if_neg (by omega)]; exact hB.b
  · rw [hg, if_neg (by omega), if_neg (by omega), if_neg (by omega)]; exact hB.f
end
end Go.Proofs.Ytobkeakbahkglaa.ChipA
/- The walks of a chip's deeds: Program. -/
namespace Go.Proofs.Ytobkeakbahkglaa.ChipA
open Go.RowKit Go.Proofs.Ytobkeakbahkglaa.ChipM

section
variable {own : Nat → Prop} {w w' : World} {m : Chp} {c bb : Nat} {cs : Array Value} {fz : Option Nat} {fl : Nat → Option Nat}
theorem Own.bcell (h : Own own w m c bb cs fz fl) {k : Nat} (hk : k < m.n) {p : Nat} (hp : p < 36) : ∃ v, w.cell? ⟨bb, k * 36 + p, none⟩ = some v := by
  have hf := h.fits hk
  rw [cell_of_row _ _ _ _ _ _ h.hb, Array.getElem?_eq_getElem (show k * 36 + p < cs.size by omega)]
  exact ⟨_, rfl⟩
theorem Own.bfroz (h : Own own w m c bb cs fz fl) (o : Nat) : w.frozen? ⟨bb, o, none⟩ = false := frozen_of_row _ _ _ _ _ h.hb
theorem Own.cfroz (h : Own own w m c bb cs fz fl) (o : Nat) : w.frozen? ⟨c, o, none⟩ = false := frozen_of_row _ _ _ _ _ h.hc
set_option maxHeartbeats 1000000 in
set_option maxRecDepth 100000 in
theorem put_any (h : Own own w m c bb cs fz fl) (hd : m.data ≤ 256) {k : Nat} (hk : k < m.n) (hp : (m.blk k).text.length < 32) (t : ByteArray) (kc kx kp : Nat)
    (hkc : w.cell? ⟨kc, 0, none⟩ = some (.pointer (some ⟨c, 0, none⟩))) (hkx : w.cell? ⟨kx, 0, none⟩ = some (.pointer (some ⟨bb, k * 36, none⟩))) (hkp : w.cell? ⟨kp, 0, none⟩ = some (.int .i64 ((m.blk k).text.length : Int)))
    (hx : bb ≠ kx) :
    Calls Try.prog 32 #[.string t, .pointer (some ⟨kc, 0, none⟩), .pointer (some ⟨kx, 0, none⟩), .pointer (some ⟨kp, 0, none⟩)] w fun e w' => e = .returned (.tuple #[]) ∧ w' = putW w.drew bb k (m.blk k).text.length (cut m t) := by
  have cc := cut_any h.drew hd t
  have hn := h.b32 hk
  obtain ⟨v, hv⟩ := h.bcell hk (p := (m.blk k).text.length) (by omega)
  have hf := h.bfroz
  unfold putW
  generalize cut m t = s at cc
  generalize (m.blk k).text.length = q at hp hkp hn hv
  generalize k * 36 = o at hkx hn hv
  have hp' : (q : Int) < 32 := by omega
  clear h hk hd
  go_enter Try.func32, Try.ntmps32
  go_wp2_with fail
  go_still_tail 8, (by kernel_rfl)
  still_call cc
  repeat still_step
  refine wpStill_nil ?_
  go_wp2_with fail
  go_end0
  exact ⟨rfl, rfl⟩
theorem do_any (h : Own own w m c bb cs fz fl) (hd : m.data ≤ 256) {k : Nat} (hk : k < m.n) (hp : (m.blk k).text.length < 32) (t : ByteArray) (kc kx kp kf ks : Nat)
    (hkc : w.cell? ⟨kc, 0, none⟩ = some (.pointer (some ⟨c, 0, none⟩))) (hkx : w.cell? ⟨kx, 0, none⟩ = some (.pointer (some ⟨bb, k * 36, none⟩))) (hkp : w.cell? ⟨kp, 0, none⟩ = some (.int .i64 ((m.blk k).text.length : Int)))
    (hkf : w.cell? ⟨kf, 0, none⟩ = some (.func (.func 32) #[] #[.pointer (some ⟨kc, 0, none⟩), .pointer (some ⟨kx, 0, none⟩), .pointer (some ⟨kp, 0, none⟩)])) (hks : w.cell? ⟨ks, 0, none⟩ = some (.string t))
    (hx : bb ≠ kx) :
    Calls Try.prog 35 #[.pointer (some ⟨kf, 0, none⟩), .pointer (some ⟨ks, 0, none⟩)] w fun e w' => e = .returned (.tuple #[]) ∧ w' = putW w.drew bb k (m.blk k).text.length (cut m t) := by
  have cp := put_any h hd hk hp t kc kx kp hkc hkx hkp hx
  clear h hd hk hp hkc hkx hkp hx
  go_enter Try.func35, Try.ntmps35
  go_wp2_with fail
  refine cp.mono ?_
  rintro e w' ⟨rfl, hw⟩
  go_wp2_with fail
  go_end0
  exact ⟨rfl, rfl⟩
/-- The chip is where it was; and but for its own blocks, all is. -/
def Goes (own : Nat → Prop) (w w' : World) (c bb : Nat) (m : Chp) : Prop := (∃ cs fz fl, Own own w' m c bb cs fz fl) ∧ Foot own w w'
def DeedPost (own : Nat → Prop) (w : World) (c bb : Nat) (r : Int × Chp) (e : Ending) (w' : World) : Prop := e = .returned (.int .i64 r.1) ∧ Goes own w w' c bb r.2
theorem deed_bad (h : Own own w m c bb cs fz fl) {k : Nat} (hk : k < m.n) (hb : (m.blk k).bad = true) (v1 v2 v3 : Value) :
    Calls Try.prog 34 #[.pointer (some ⟨c, 0, none⟩), .pointer (some ⟨bb, k * 36, none⟩), v1, v2, v3] w fun e w' => e = .returned (.int .i64 15) ∧ w' = w := by
  have c34 := h.b34 hk
  rw [hb] at c34
  generalize k * 36 = o at c34
  clear h hk hb
  go_enter Try.func34, Try.ntmps34
  go_wp2_with fail
  go_ret
  exact ⟨rfl, rfl⟩
theorem deed_dead (h : Own own w m c bb cs fz fl) {k : Nat} (hk : k < m.n) (hb : (m.blk k).bad = false) {t : ByteArray} (hf : m.fuse = some (0, t)) (ht : t.toList.isEmpty = true) (v1 v2 v3 : Value) :
    Calls Try.prog 34 #[.pointer (some ⟨c, 0, none⟩), .pointer (some ⟨bb, k * 36, none⟩), v1, v2, v3] w fun e w' => e = .returned (.int .i64 14) ∧ w' = w.setCell ⟨c, 3, none⟩ (.bool true) := by
  have c34 := h.b34 hk
  rw [hb] at c34
  have c3 := h.c3
  have c4 := h.c4
  have cf := h.cfroz 3
  obtain ⟨z, rfl⟩ : ∃ z, fz = some z := by
    cases fz with
    | none => rw [h.f0.1 rfl] at hf; cases hf
    | some z => exact ⟨z, rfl⟩
  obtain ⟨_, n1, n2, n, t', e2, hh⟩ := h.f1 z rfl
  rw [hf] at e2
  simp only [Option.some.injEq, Prod.mk.injEq] at e2
  obtain ⟨rfl, rfl⟩ := e2
  have z0 : w.cell? ⟨z, 0, none⟩ = some (.int .i64 0) := by rw [cell_of_row _ _ _ _ _ _ hh]; rfl
  have z1 : w.cell? ⟨z, 1, none⟩ = some (.string t) := by rw [cell_of_row _ _ _ _ _ _ hh]; rfl
  unfold ptr at c4
  simp only [Option.map_some] at c4
  have ht2 : t.toList = [] := by simpa using ht
  have ht3 : (!t.toList.isEmpty) = false := by rw [ht]; rfl
  generalize m.dead = dd at c3
  generalize k * 36 = o at c34
  clear h hk hb hh hf
  go_enter Try.func34, Try.ntmps34
  go_wp2_with fail
  go_ret
  exact ⟨rfl, rfl⟩
theorem deed_dies (h : Own own w m c bb cs fz fl) {k : Nat} (hk : k < m.n) (hb : (m.blk k).bad = false) {t : ByteArray} (hf : m.fuse = some (0, t)) (ht : t.toList.isEmpty = false) (v1 v3 : Value) (f2 : FuncId) (he : ∀ (xs : Array Value) (W : World), (callFunc f2 xs).run Try.prog W = .ok (.enter f2 xs) W) (cap2 : Array Value) (R : World → Prop)
    (hd : Calls Try.prog f2 (#[.string t] ++ cap2) (w.setCell ⟨c, 3, none⟩ (.bool true)) fun e w' => e = .returned (.tuple #[]) ∧ R w') :
    Calls Try.prog 34 #[.pointer (some ⟨c, 0, none⟩), .pointer (some ⟨bb, k * 36, none⟩), v1, .func (.func f2) #[] cap2, v3] w fun e w' => e = .returned (.int .i64 14) ∧ R w' := by
  have c34 := h.b34 hk
  rw [hb] at c34
  have c3 := h.c3
  have c4 := h.c4
  have cf := h.cfroz 3
  obtain ⟨z, rfl⟩ : ∃ z, fz = some z := by
    cases fz with
    | none => rw [h.f0.1 rfl] at hf; cases hf
    | some z => exact ⟨z, rfl⟩
  obtain ⟨_, n1, n2, n, t', e2, hh⟩ := h.f1 z rfl
  rw [hf] at e2
  simp only [Option.some.injEq, Prod.mk.injEq] at e2
  obtain ⟨rfl, rfl⟩ := e2
  have z0 : w.cell? ⟨z, 0, none⟩ = some (.int .i64 0) := by rw [cell_of_row _ _ _ _ _ _ hh]; rfl
  have z1 : w.cell? ⟨z, 1, none⟩ = some (.string t) := by rw [cell_of_row _ _ _ _ _ _ hh]; rfl
  unfold ptr at c4
  simp only [Option.map_some] at c4
  have ht2 : ¬ t.toList = [] := by simpa using ht
  have ht3 : (!t.toList.isEmpty) = true := by rw [ht]; rfl
  generalize m.dead = dd at c3
  generalize k * 36 = o at c34
  clear h hk hb hh hf
  go_enter Try.func34, Try.ntmps34
  go_wp2_with fail
  refine hd.mono ?_
  rintro e w' ⟨rfl, hR⟩
  go_wp2_with fail
  go_ret
  exact ⟨rfl, hR⟩
theorem deed_do0 (h : Own own w m c bb cs fz fl) {k : Nat} (hk : k < m.n) (hb : (m.blk k).bad = false) (hf : m.fuse = none) (hl : (m.blk k).fails = none) (v2 v3 : Value) (f1 : FuncId) (he : ∀ (xs : Array Value) (W : World), (callFunc f1 xs).run Try.prog W = .ok (.enter f1 xs) W) (cap1 : Array Value) (R : World → Prop)
    (hd : Calls Try.prog f1 cap1 w fun e w' => e = .returned (.tuple #[]) ∧ R w') :
    Calls Try.prog 34 #[.pointer (some ⟨c, 0, none⟩), .pointer (some ⟨bb, k * 36, none⟩), .func (.func f1) #[] cap1, v2, v3] w fun e w' => e = .returned (.int .i64 0) ∧ R w' := by
  have c34 := h.b34 hk
  rw [hb] at c34
  have c4 := h.c4
  have e0 : fz = none := h.f0.2 hf
  rw [e0] at c4
  unfold ptr at c4
  simp only [Option.map_none] at c4
  have c35 := h.b35 hk
  have e1 : fl k = none := (h.l0 k hk).2 hl
  rw [e1] at c35
  unfold ptr at c35
  simp only [Option.map_none] at c35
  generalize k * 36 = o at c34 c35
  clear h hk hb hf hl
  go_enter Try.func34, Try.ntmps34
  go_wp2_with fail
  refine hd.mono ?_
  rintro e w' ⟨rfl, hR⟩
  go_wp2_with fail
  go_ret
  exact ⟨rfl, hR⟩
theorem deed_fails0 (h : Own own w m c bb cs fz fl) {k : Nat} (hk : k < m.n) (hb : (m.blk k).bad = false) (hf : m.fuse = none) {s : ByteArray} (hl : (m.blk k).fails = some s) (v1 v2 : Value) (f3 : FuncId) (he : ∀ (xs : Array Value) (W : World), (callFunc f3 xs).run Try.prog W = .ok (.enter f3 xs) W) (cap3 : Array Value) (R : World → Prop)
    (hd : Calls Try.prog f3 (#[.string s] ++ cap3) w fun e w' => e = .returned (.tuple #[]) ∧ R w') (hR : ∀ W, R W → (∃ v, W.cell? ⟨bb, k * 36 + 34, none⟩ = some v) ∧ (∃ v, W.cell? ⟨bb, k * 36 + 35, none⟩ = some v) ∧ ∀ i, W.frozen? ⟨bb, i, none⟩ = false) :
    Calls Try.prog 34 #[.pointer (some ⟨c, 0, none⟩), .pointer (some ⟨bb, k * 36, none⟩), v1, v2, .func (.func f3) #[] cap3] w fun e w' => e = .returned (.int .i64 15) ∧ ∃ W, R W ∧ w' = fellW W bb k := by
  have c34 := h.b34 hk
  rw [hb] at c34
  have c4 := h.c4
  have e0 : fz = none := h.f0.2 hf
  rw [e0] at c4
  unfold ptr at c4
  simp only [Option.map_none] at c4
  have c35 := h.b35 hk
  obtain ⟨y, hy⟩ : ∃ y, fl k = some y := by
    cases e : fl k with
    | none => rw [(h.l0 k hk).1 e] at hl; cases hl
    | some y => exact ⟨y, rfl⟩
  obtain ⟨_, y1, y2, y3, s', e3, hh3⟩ := h.l1 k hk y hy
  rw [hl] at e3
  obtain rfl := Option.some.inj e3
  rw [hy] at c35
  unfold ptr at c35
  simp only [Option.map_some] at c35
  have y0 : w.cell? ⟨y, 0, none⟩ = some (.string s) := by rw [cell_of_row _ _ _ _ _ _ hh3]; rfl
  unfold fellW
  generalize k * 36 = o at c34 c35 hR
  clear h hk hb hf hl
  go_enter Try.func34, Try.ntmps34
  go_wp2_with fail
  refine hd.mono ?_
  rintro e w' ⟨rfl, hW⟩
  obtain ⟨⟨v, hv⟩, ⟨u, hu⟩, hfz⟩ := hR w' hW
  clear hR
  have hW := Lib.hid hW
  go_wp2_with fail
  go_ret
  exact ⟨rfl, _, hW.out, rfl⟩
theorem deed_do1 (h : Own own w m c bb cs fz fl) {k : Nat} (hk : k < m.n) (hb : (m.blk k).bad = false) {n : Nat} {t : ByteArray} (hf : m.fuse = some (n + 1, t)) (hn : n < 1073741824) (hl : (m.blk k).fails = none) (v2 v3 : Value) (f1 : FuncId) (he : ∀ (xs : Array Value) (W : World), (callFunc f1 xs).run Try.prog W = .ok (.enter f1 xs) W) (cap1 : Array Value) (R : World → Prop)
    (hd : ∀ z, fz = some z → Calls Try.prog f1 cap1 (w.setCell ⟨z, 0, none⟩ (.int .i64 (n : Int))) fun e w' => e = .returned (.tuple #[]) ∧ R w') :
    Calls Try.prog 34 #[.pointer (some ⟨c, 0, none⟩), .pointer (some ⟨bb, k * 36, none⟩), .func (.func f1) #[] cap1, v2, v3] w fun e w' => e = .returned (.int .i64 0) ∧ R w' := by
  have c34 := h.b34 hk
  rw [hb] at c34
  have c4 := h.c4
  obtain ⟨z, rfl⟩ : ∃ z, fz = some z := by
    cases fz with
    | none => rw [h.f0.1 rfl] at hf; cases hf
    | some z => exact ⟨z, rfl⟩
  have h1 := h.burn rfl hf
  obtain ⟨_, n1, n2, n', t', e2, hh⟩ := h.f1 z rfl
  rw [hf] at e2
  simp only [Option.some.injEq, Prod.mk.injEq] at e2
  obtain ⟨rfl, rfl⟩ := e2
  have z0 : w.cell? ⟨z, 0, none⟩ = some (.int .i64 ((n + 1 : Nat) : Int)) := by rw [cell_of_row _ _ _ _ _ _ hh]; rfl
  have zf : w.frozen? ⟨z, 0, none⟩ = false := frozen_of_row _ _ _ _ _ hh
  unfold ptr at c4
  simp only [Option.map_some] at c4
  have q1 : (((n + 1 : Nat) : Int) == 0) = false := by simp; omega
  have q2 : ((n + 1 : Nat) : Int) - 1 = (n : Int) := by omega
  have q3 : ((n + 1 : Nat) : Int) ≤ 1073741824 := by omega
  have q4 : (0 : Int) ≤ ((n + 1 : Nat) : Int) := by omega
  have d4 := h1.c4
  unfold ptr at d4
  simp only [Option.map_some] at d4
  have c35 := h1.b35 hk
  replace hd := hd z rfl
  have e1 : fl k = none := (h.l0 k hk).2 hl
  rw [e1] at c35
  unfold ptr at c35
  simp only [Option.map_none] at c35
  generalize k * 36 = o at c34 c35
  generalize ((n + 1 : Nat) : Int) = nn at z0 q1 q2 q3 q4
  clear h1
  clear h hk hb hf hl
  go_enter Try.func34, Try.ntmps34
  go_wp2_with fail
  refine hd.mono ?_
  rintro e w' ⟨rfl, hR⟩
  go_wp2_with fail
  go_ret
  exact ⟨rfl, hR⟩
theorem deed_fails1 (h : Own own w m c bb cs fz fl) {k : Nat} (hk : k < m.n) (hb : (m.blk k).bad = false) {n : Nat} {t : ByteArray} (hf : m.fuse = some (n + 1, t)) (hn : n < 1073741824) {s : ByteArray} (hl : (m.blk k).fails = some s) (v1 v2 : Value) (f3 : FuncId) (he : ∀ (xs : Array Value) (W : World), (callFunc f3 xs).run Try.prog W = .ok (.enter f3 xs) W) (cap3 : Array Value) (R : World → Prop)
    (hd : ∀ z, fz = some z → Calls Try.prog f3 (#[.string s] ++ cap3) (w.setCell ⟨z, 0, none⟩ (.int .i64 (n : Int))) fun e w' => e = .returned (.tuple #[]) ∧ R w') (hR : ∀ W, R W → (∃ v, W.cell? ⟨bb, k * 36 + 34, none⟩ = some v) ∧ (∃ v, W.cell? ⟨bb, k * 36 + 35, none⟩ = some v) ∧ ∀ i, W.frozen? ⟨bb, i, none⟩ = false) :
    Calls Try.prog 34 #[.pointer (some ⟨c, 0, none⟩), .pointer (some ⟨bb, k * 36, none⟩), v1, v2, .func (.func f3) #[] cap3] w fun e w' => e = .returned (.int .i64 15) ∧ ∃ W, R W ∧ w' = fellW W bb k := by
  have c34 := h.b34 hk
  rw [hb] at c34
  have c4 := h.c4
  obtain ⟨z, rfl⟩ : ∃ z, fz = some z := by
    cases fz with
    | none => rw [h.f0.1 rfl] at hf; cases hf
    | some z => exact ⟨z, rfl⟩
  have h1 := h.burn rfl hf
  obtain ⟨_, n1, n2, n', t', e2, hh⟩ := h.f1 z rfl
  rw [hf] at e2
  simp only [Option.some.injEq, Prod.mk.injEq] at e2
  obtain ⟨rfl, rfl⟩ := e2
  have z0 : w.cell? ⟨z, 0, none⟩ = some (.int .i64 ((n + 1 : Nat) : Int)) := by rw [cell_of_row _ _ _ _ _ _ hh]; rfl
  have zf : w.frozen? ⟨z, 0, none⟩ = false := frozen_of_row _ _ _ _ _ hh
  unfold ptr at c4
  simp only [Option.map_some] at c4
  have q1 : (((n + 1 : Nat) : Int) == 0) = false := by simp; omega
  have q2 : ((n + 1 : Nat) : Int) - 1 = (n : Int) := by omega
  have q3 : ((n + 1 : Nat) : Int) ≤ 1073741824 := by omega
  have q4 : (0 : Int) ≤ ((n + 1 : Nat) : Int) := by omega
  have d4 := h1.c4
  unfold ptr at d4
  simp only [Option.map_some] at d4
  have c35 := h1.b35 hk
  replace hd := hd z rfl
  obtain ⟨y, hy⟩ : ∃ y, fl k = some y := by
    cases e : fl k with
    | none => rw [(h.l0 k hk).1 e] at hl; cases hl
    | some y => exact ⟨y, rfl⟩
  obtain ⟨_, y1, y2, y3, s', e3, hh3⟩ := h.l1 k hk y hy
  rw [hl] at e3
  obtain rfl := Option.some.inj e3
  rw [hy] at c35
  unfold ptr at c35
  simp only [Option.map_some] at c35
  have y0 : (w.setCell ⟨z, 0, none⟩ (.int .i64 (n : Int))).cell? ⟨y, 0, none⟩ = some (.string s) := by rw [cell_of_row _ _ _ _ _ _ ((heap_setCell_other _ _ _ _ (fun e => y3 (congrArg some e.symm))).trans hh3)]; rfl
  unfold fellW
  generalize k * 36 = o at c34 c35 hR
  generalize ((n + 1 : Nat) : Int) = nn at z0 q1 q2 q3 q4
  clear h1
  clear h hk hb hf hl
  go_enter Try.func34, Try.ntmps34
  go_wp2_with fail
  refine hd.mono ?_
  rintro e w' ⟨rfl, hW⟩
  obtain ⟨⟨v, hv⟩, ⟨u, hu⟩, hfz⟩ := hR w' hW
  clear hR
  have hW := Lib.hid hW
  go_wp2_with fail
  go_ret
  exact ⟨rfl, _, hW.out, rfl⟩
theorem enters30 (xs : Array Value) (W : World) : (callFunc 32 xs).run Try.prog W = .ok (.enter 32 xs) W := by
  simp [go_sem]
theorem enters32 (xs : Array Value) (W : World) : (callFunc 35 xs).run Try.prog W = .ok (.enter 35 xs) W := by
  kernel_rfl
end
end Go.Proofs.Ytobkeakbahkglaa.ChipA
/- A chip's deed: what it comes to. -/
namespace Go.Proofs.Ytobkeakbahkglaa.ChipA
open Go.RowKit Go.Proofs.Ytobkeakbahkglaa.ChipM

section
variable {own : Nat → Prop} {w w' : World} {m : Chp} {c bb : Nat} {cs : Array Value} {fz : Option Nat} {fl : Nat → Option Nat}
theorem burn_none {m : Chp} (h : m.fuse = none) : burn m = m := by
  cases m
  simp only at h
  subst h
  rfl
theorem Foot.putW {own : Nat → Prop} {w : World} {bb k p : Nat} {s : ByteArray} (h : own bb) : Foot own w (putW w bb k p s) := (Foot.setCell w _ _ h).trans (Foot.setCell _ _ _ h)
theorem Foot.fellW {own : Nat → Prop} {w : World} {bb k : Nat} (h : own bb) : Foot own w (fellW w bb k) := (Foot.setCell w _ _ h).trans (Foot.setCell _ _ _ h)
theorem deed_any (h : Own own w m c bb cs fz fl) {k : Nat} (hk : k < m.n) (hfu : ∀ n t, m.fuse = some (n, t) → n ≤ 1073741824) (do_ : Chp → Chp) (dies fails : Chp → ByteArray → Chp) (hfn : ∀ m t, (fails m t).n = m.n) (f1 f2 f3 : FuncId) (cap1 cap2 cap3 : Array Value)
    (e1 : ∀ (xs : Array Value) (W : World), (callFunc f1 xs).run Try.prog W = .ok (.enter f1 xs) W) (e2 : ∀ (xs : Array Value) (W : World), (callFunc f2 xs).run Try.prog W = .ok (.enter f2 xs) W) (e3 : ∀ (xs : Array Value) (W : World), (callFunc f3 xs).run Try.prog W = .ok (.enter f3 xs) W)
    (hdo : ∀ w1 cs1 fz1 fl1, Own own w1 (burn m) c bb cs1 fz1 fl1 → Foot own w w1 → Calls Try.prog f1 cap1 w1 fun e w2 => e = .returned (.tuple #[]) ∧ Goes own w1 w2 c bb (do_ (burn m)))
    (hdies : ∀ t w1 cs1 fz1 fl1, Own own w1 (dieM m) c bb cs1 fz1 fl1 → Foot own w w1 → Calls Try.prog f2 (#[.string t] ++ cap2) w1 fun e w2 => e = .returned (.tuple #[]) ∧ Goes own w1 w2 c bb (dies (dieM m) t))
    (hfails : ∀ t w1 cs1 fz1 fl1, Own own w1 (burn m) c bb cs1 fz1 fl1 → Foot own w w1 → Calls Try.prog f3 (#[.string t] ++ cap3) w1 fun e w2 => e = .returned (.tuple #[]) ∧ Goes own w1 w2 c bb (fails (burn m) t)) :
    Calls Try.prog 34 #[.pointer (some ⟨c, 0, none⟩), .pointer (some ⟨bb, k * 36, none⟩), .func (.func f1) #[] cap1, .func (.func f2) #[] cap2, .func (.func f3) #[] cap3] w (DeedPost own w c bb (deed m k do_ dies fails)) := by
  have hbn : (burn m).n = m.n := rfl
  have hfell : ∀ {W t}, Goes own w W c bb (fails (burn m) t) → Goes own w (fellW W bb k) c bb (fell (fails (burn m) t) k) := fun {W t} hg => by
    obtain ⟨⟨cs1, fz1, fl1, h1⟩, hf⟩ := hg
    obtain ⟨cs2, fl2, h2⟩ := h1.fell (k := k) (by rw [hfn, hbn]; exact hk)
    exact ⟨⟨_, _, _, h2⟩, hf.trans (Foot.fellW h.ob)⟩
  have hcell : ∀ {W t}, Goes own w W c bb (fails (burn m) t) → (∃ v, W.cell? ⟨bb, k * 36 + 34, none⟩ = some v) ∧ (∃ v, W.cell? ⟨bb, k * 36 + 35, none⟩ = some v) ∧ ∀ i, W.frozen? ⟨bb, i, none⟩ = false := fun {W t} hg => by
    obtain ⟨⟨cs1, fz1, fl1, h1⟩, hf⟩ := hg
    have hk' : k < (fails (burn m) t).n := by rw [hfn, hbn]; exact hk
    exact ⟨h1.bcell hk' (by omega), h1.bcell hk' (by omega), h1.bfroz⟩
  unfold deed
  cases hb : (m.blk k).bad with
  | true =>
    rw [if_pos rfl]
    refine (deed_bad h hk hb _ _ _).mono ?_
    rintro e w' ⟨rfl, rfl⟩
    exact ⟨rfl, ⟨_, _, _, h⟩, Foot.refl _ _⟩
  | false =>
    rw [if_neg (by simp)]
    cases hf : m.fuse with
    | none =>
      have hbm := burn_none hf
      cases hl : (m.blk k).fails with
      | none =>
        refine (deed_do0 h hk hb hf hl _ _ f1 e1 cap1 (fun w' => Goes own w w' c bb (do_ (burn m))) (hdo w cs fz fl (by rw [hbm]; exact h) (Foot.refl _ _))).mono ?_
        rintro e w' ⟨rfl, hg⟩
        exact ⟨rfl, hg⟩
      | some s =>
        refine (deed_fails0 h hk hb hf hl _ _ f3 e3 cap3 (fun w' => Goes own w w' c bb (fails (burn m) s)) (hfails s w cs fz fl (by rw [hbm]; exact h) (Foot.refl _ _)) (fun W hW => hcell hW)).mono ?_
        rintro e w' ⟨rfl, W, hg, rfl⟩
        exact ⟨rfl, hfell hg⟩
    | some nt =>
      obtain ⟨n, t⟩ := nt
      cases n with
      | zero =>
        have hdd : Own own (w.setCell ⟨c, 3, none⟩ (.bool true)) (dieM m) c bb cs fz fl := h.dead true
        have hdf : Foot own w (w.setCell ⟨c, 3, none⟩ (.bool true)) := Foot.setCell _ _ _ h.oc
        cases ht : t.toList.isEmpty with
        | true =>
          refine (deed_dead h hk hb hf ht _ _ _).mono ?_
          rintro e w' ⟨rfl, rfl⟩
          refine ⟨rfl, ?_⟩
          simp only [ht, if_true]
          exact ⟨⟨_, _, _, hdd⟩, hdf⟩
        | false =>
          refine (deed_dies h hk hb hf ht _ _ f2 e2 cap2 (fun w' => Goes own (w.setCell ⟨c, 3, none⟩ (.bool true)) w' c bb (dies (dieM m) t)) (hdies t _ cs fz fl hdd hdf)).mono ?_
          rintro e w' ⟨rfl, hg⟩
          refine ⟨rfl, ?_⟩
          simp only [ht, Bool.false_eq_true, if_false]
          exact ⟨hg.1, hdf.trans hg.2⟩
      | succ n =>
        have hn := hfu _ _ hf
        have hz : ∀ z, fz = some z → Own own (w.setCell ⟨z, 0, none⟩ (.int .i64 (n : Int))) (burn m) c bb cs fz fl ∧ Foot own w (w.setCell ⟨z, 0, none⟩ (.int .i64 (n : Int))) := fun z hz => ⟨h.burn hz hf, Foot.setCell _ _ _ (h.f1 z hz).1⟩
        cases hl : (m.blk k).fails with
        | none =>
          refine (deed_do1 h hk hb hf (by omega) hl _ _ f1 e1 cap1 (fun w' => Goes own w w' c bb (do_ (burn m))) (fun z e => (hdo _ cs fz fl (hz z e).1 (hz z e).2).mono fun e w' hh => ⟨hh.1, hh.2.1, ?_⟩)).mono ?_
          · exact (hz z ‹fz = some z›).2.trans hh.2.2
          · rintro e w' ⟨rfl, hg⟩
            exact ⟨rfl, hg⟩
        | some s =>
          refine (deed_fails1 h hk hb hf (by omega) hl _ _ f3 e3 cap3 (fun w' => Goes own w w' c bb (fails (burn m) s)) (fun z e => (hfails s _ cs fz fl (hz z e).1 (hz z e).2).mono fun e w' hh => ⟨hh.1, hh.2.1, ?_⟩) (fun W hW => hcell hW)).mono ?_
          · exact (hz z ‹fz = some z›).2.trans hh.2.2
          · rintro e w' ⟨rfl, W, hg, rfl⟩
            exact ⟨rfl, hfell hg⟩
end
end Go.Proofs.Ytobkeakbahkglaa.ChipA
/- The walk of a chip's Program. -/
namespace Go.Proofs.Ytobkeakbahkglaa.ChipA
open Go.RowKit Go.Proofs.Ytobkeakbahkglaa.ChipM

section
variable {own : Nat → Prop} {w w' : World} {m : Chp} {c bb : Nat} {cs : Array Value} {fz : Option Nat} {fl : Nat → Option Nat}
/-- The world behind Program's boxes. -/
def boxW (w : World) (c : Nat) (p : Int) (s : ByteArray) : World := ((w.alloc (.cells #[.pointer (some ⟨c, 0, none⟩)] 43)).alloc (.cells #[.int .i64 p] 3)).alloc (.cells #[.string s] 9)
theorem below_drewN {B : Nat} {a w : World} (h : Below B a w) (n : Nat) : Below B a (w.drewN n) := ⟨h.os, h.tape, h.output, h.size, h.block⟩
theorem below_alloc (w : World) (o : Obj) : Below w.heap.size w (w.alloc o) := (Below.refl _ _).alloc (Nat.le_refl _) o
theorem below_step {a b c : World} (h : Below a.heap.size a b) (k : Below b.heap.size b c) : Below a.heap.size a c := h.trans (k.mono h.size)
theorem boxW_below (w : World) (c : Nat) (p : Int) (s : ByteArray) (o : Obj) : Below w.heap.size w ((boxW w c p s).alloc o) := below_step (below_step (below_step (below_alloc _ _) (below_alloc _ _)) (below_alloc _ _)) (below_alloc _ _)
theorem program_dead (h : Own own w m c bb cs fz fl) (hn : m.n ≤ 64) (hd : m.dead = true) (b p : Int) (s : ByteArray) :
    Calls Try.prog 19 #[.pointer (some ⟨c, 0, none⟩), .int .i64 b, .int .i64 p, .string s] w fun e w' => e = .returned (.int .i64 14) ∧ Below w.heap.size w w' := by
  have hb3 : Own own (boxW w c p s) m c bb cs fz fl := ((h.alloc _).alloc _).alloc _
  have ca : ∃ x, Calls Try.prog 31 #[.pointer (some ⟨c, 0, none⟩), .int .i64 b] (boxW w c p s) fun e w' => e = .returned (.pointer x) ∧ w' = boxW w c p s := by
    cases hb : there m b with
    | false => exact ⟨_, at_no hb3 hn hb⟩
    | true =>
      obtain ⟨k, rfl, hk⟩ := there_of hb
      exact ⟨_, at_yes hb3 hn hk⟩
  obtain ⟨x, ca⟩ := ca
  have c3 := (hb3.alloc (.cells #[.pointer x] 70)).c3
  rw [hd] at c3
  have hfin : ∀ o, Below w.heap.size w ((boxW w c p s).alloc o) := fun o => boxW_below w c p s o
  unfold boxW at ca hfin c3
  clear h hb3 hd
  go_enter Try.func19, Try.ntmps19
  go_wp2_with fail
  refine ca.mono ?_
  rintro e w' ⟨rfl, rfl⟩
  go_wp2_with fail
  go_ret
  exact ⟨rfl, hfin _⟩
theorem program_none (h : Own own w m c bb cs fz fl) (hn : m.n ≤ 64) (hd : m.dead = false) (b p : Int) (hb : there m b = false) (s : ByteArray) :
    Calls Try.prog 19 #[.pointer (some ⟨c, 0, none⟩), .int .i64 b, .int .i64 p, .string s] w fun e w' => e = .returned (.int .i64 1) ∧ Below w.heap.size w w' := by
  have hb3 : Own own (boxW w c p s) m c bb cs fz fl := ((h.alloc _).alloc _).alloc _
  have ca := at_no hb3 hn hb
  have c3 := (hb3.alloc (.cells #[.pointer none] 70)).c3
  rw [hd] at c3
  have hfin : ∀ o n, Below w.heap.size w (((boxW w c p s).alloc o).drewN n) := fun o n => below_drewN (boxW_below w c p s o) n
  unfold boxW at ca hfin c3
  clear h hb3 hd hb
  go_enter Try.func19, Try.ntmps19
  go_wp2_with fail
  refine ca.mono ?_
  rintro e w' ⟨rfl, rfl⟩
  go_wp2_with fail
  go_quiet (fail)
  go_wp2_with fail
  go_ret
  exact ⟨rfl, hfin _ _⟩
theorem program_off (h : Own own w m c bb cs fz fl) (hn : m.n ≤ 64) (hp : m.pages ≤ 32) (hd : m.dead = false) {k : Nat} (hk : k < m.n) (p : Int) (hb : within p 0 ((m.pages : Int) - 1) = false) (s : ByteArray) :
    Calls Try.prog 19 #[.pointer (some ⟨c, 0, none⟩), .int .i64 (k : Int), .int .i64 p, .string s] w fun e w' => e = .returned (.int .i64 1) ∧ Below w.heap.size w w' := by
  have hb3 : Own own (boxW w c p s) m c bb cs fz fl := ((h.alloc _).alloc _).alloc _
  have ca := at_yes hb3 hn hk
  have hb4 := hb3.alloc (.cells #[.pointer (some ⟨bb, k * 36, none⟩)] 70)
  have c3 := hb4.c3
  have c1 := hb4.c1
  rw [hd] at c3
  have hw := within_any p 0 ((m.pages : Int) - 1)
  rw [hb] at hw
  have hfin : ∀ o n, Below w.heap.size w (((boxW w c p s).alloc o).drewN n) := fun o n => below_drewN (boxW_below w c p s o) n
  unfold boxW at ca hfin c3 c1
  generalize k * 36 = o at ca c3 c1
  generalize m.pages = pg at hp c1 hw
  clear h hb3 hd hb hb4
  go_enter Try.func19, Try.ntmps19
  go_wp2_with fail
  refine ca.mono ?_
  rintro e w' ⟨rfl, rfl⟩
  go_wp2_with fail
  go_quiet ((go_at_call 30; exact Calls.quiet_of_same (hw _)))
  go_wp2_with fail
  go_ret
  exact ⟨rfl, hfin _ _⟩
theorem program_long (h : Own own w m c bb cs fz fl) (hn : m.n ≤ 64) (hp : m.pages ≤ 32) (hd : m.dead = false) {k : Nat} (hk : k < m.n) (p : Int) (hb : within p 0 ((m.pages : Int) - 1) = true) (s : ByteArray) (hl : ¬ s.size ≤ m.data) :
    Calls Try.prog 19 #[.pointer (some ⟨c, 0, none⟩), .int .i64 (k : Int), .int .i64 p, .string s] w fun e w' => e = .returned (.int .i64 1) ∧ Below w.heap.size w w' := by
  have hb3 : Own own (boxW w c p s) m c bb cs fz fl := ((h.alloc _).alloc _).alloc _
  have ca := at_yes hb3 hn hk
  have hb4 := hb3.alloc (.cells #[.pointer (some ⟨bb, k * 36, none⟩)] 70)
  have c3 := hb4.c3
  have c1 := hb4.c1
  have c2 := hb4.c2
  have c32 := hb4.b32 hk
  rw [hd] at c3
  have hw := within_any p 0 ((m.pages : Int) - 1)
  rw [hb] at hw
  have q1 : decide ((m.data : Int) < (s.size : Int)) = true := decide_eq_true (by omega)
  have q2 : decide (m.data < s.size) = true := decide_eq_true (by omega)
  have hfin : ∀ o n, Below w.heap.size w (((boxW w c p s).alloc o).drewN n) := fun o n => below_drewN (boxW_below w c p s o) n
  unfold boxW at ca hfin c3 c1 c2 c32
  generalize k * 36 = o at ca c3 c1 c2 c32
  generalize m.pages = pg at hp c1 hw
  generalize m.data = dt at hl c2 q1 q2
  clear c32
  clear h hb3 hd hb hb4 hl
  go_enter Try.func19, Try.ntmps19
  go_wp2_with fail
  refine ca.mono ?_
  rintro e w' ⟨rfl, rfl⟩
  go_wp2_with fail
  go_quiet ((go_at_call 30; exact Calls.quiet_of_same (hw _)))
  go_wp2_with fail
  go_ret
  exact ⟨rfl, hfin _ _⟩
theorem program_other (h : Own own w m c bb cs fz fl) (hn : m.n ≤ 64) (hp : m.pages ≤ 32) (hd : m.dead = false) {k : Nat} (hk : k < m.n) (p : Int) (hb : within p 0 ((m.pages : Int) - 1) = true) (s : ByteArray) (hl : s.size ≤ m.data) (hne : ¬ p = ((m.blk k).text.length : Int)) :
    Calls Try.prog 19 #[.pointer (some ⟨c, 0, none⟩), .int .i64 (k : Int), .int .i64 p, .string s] w fun e w' => e = .returned (.int .i64 1) ∧ Below w.heap.size w w' := by
  have hb3 : Own own (boxW w c p s) m c bb cs fz fl := ((h.alloc _).alloc _).alloc _
  have ca := at_yes hb3 hn hk
  have hb4 := hb3.alloc (.cells #[.pointer (some ⟨bb, k * 36, none⟩)] 70)
  have c3 := hb4.c3
  have c1 := hb4.c1
  have c2 := hb4.c2
  have c32 := hb4.b32 hk
  rw [hd] at c3
  have hw := within_any p 0 ((m.pages : Int) - 1)
  rw [hb] at hw
  have q1 : decide ((m.data : Int) < (s.size : Int)) = false := decide_eq_false (by omega)
  have q2 : decide (m.data < s.size) = false := decide_eq_false (by omega)
  have q3 : (p == ((m.blk k).text.length : Int)) = false := beq_eq_false_iff_ne.2 hne
  have q4 : (p != ((m.blk k).text.length : Int)) = true := bne_iff_ne.2 hne
  have hfin : ∀ o n, Below w.heap.size w (((boxW w c p s).alloc o).drewN n) := fun o n => below_drewN (boxW_below w c p s o) n
  unfold boxW at ca hfin c3 c1 c2 c32
  generalize k * 36 = o at ca c3 c1 c2 c32
  generalize m.pages = pg at hp c1 hw
  generalize m.data = dt at hl c2 q1 q2
  generalize ((m.blk k).text.length : Int) = q at c32 q3 q4 hne
  clear h hb3 hd hb hb4 hl hne
  go_enter Try.func19, Try.ntmps19
  go_wp2_with fail
  refine ca.mono ?_
  rintro e w' ⟨rfl, rfl⟩
  go_wp2_with fail
  go_quiet ((go_at_call 30; exact Calls.quiet_of_same (hw _)))
  go_wp2_with fail
  go_ret
  exact ⟨rfl, hfin _ _⟩
end
end Go.Proofs.Ytobkeakbahkglaa.ChipA
/- A chip's Program: what it comes to. -/
namespace Go.Proofs.Ytobkeakbahkglaa.ChipA
open Go.RowKit Go.Proofs.Ytobkeakbahkglaa.ChipM

section
variable {own : Nat → Prop} {w w' : World} {m : Chp} {c bb : Nat} {cs : Array Value} {fz : Option Nat} {fl : Nat → Option Nat}
theorem Foot.cell {own : Nat → Prop} {w w1 : World} (h : Foot own w w1) {k o : Nat} {v : Value} (hk : k < w.heap.size) (ho : ¬ own k) (hc : w.cell? ⟨k, o, none⟩ = some v) : w1.cell? ⟨k, o, none⟩ = some v := by
  rw [← hc]
  exact World.cell?_of_block (w := w) (h.block k hk ho)
/-- The world behind all of Program's boxes. -/
def allW (w : World) (c : Nat) (p : Int) (s : ByteArray) (x : Value) (n : Nat) (f : Value) : World := (((boxW w c p s).alloc (.cells #[x] 70)).drewN n).alloc (.cells #[f] 76)
theorem allW_size (w : World) (c : Nat) (p : Int) (s : ByteArray) (x : Value) (n : Nat) (f : Value) : (allW w c p s x n f).heap.size = w.heap.size + 5 := by simp [allW, boxW]
theorem allW_cell (w : World) (c : Nat) (p : Int) (s : ByteArray) (x : Value) (n : Nat) (f : Value) :
    (allW w c p s x n f).cell? ⟨w.heap.size, 0, none⟩ = some (.pointer (some ⟨c, 0, none⟩)) ∧ (allW w c p s x n f).cell? ⟨w.heap.size + 1, 0, none⟩ = some (.int .i64 p) ∧ (allW w c p s x n f).cell? ⟨w.heap.size + 1 + 1, 0, none⟩ = some (.string s)
    ∧ (allW w c p s x n f).cell? ⟨w.heap.size + 1 + 1 + 1, 0, none⟩ = some x ∧ (allW w c p s x n f).cell? ⟨w.heap.size + 1 + 1 + 1 + 1, 0, none⟩ = some f := by
  have e : (allW w c p s x n f).heap = ((((w.heap.push (.cells #[.pointer (some ⟨c, 0, none⟩)] 43)).push (.cells #[.int .i64 p] 3)).push (.cells #[.string s] 9)).push (.cells #[x] 70)).push (.cells #[f] 76) := rfl
  have g0 : (allW w c p s x n f).heap[w.heap.size]? = some (.cells #[.pointer (some ⟨c, 0, none⟩)] 43) := by
    simp only [e, Array.getElem?_push, Array.size_push]
    rw [if_neg (by omega), if_neg (by omega), if_neg (by omega), if_neg (by omega), if_pos trivial]
  have g1 : (allW w c p s x n f).heap[w.heap.size + 1]? = some (.cells #[.int .i64 p] 3) := by
    simp only [e, Array.getElem?_push, Array.size_push]
    rw [if_neg (by omega), if_neg (by omega), if_neg (by omega), if_pos trivial]
  have g2 : (allW w c p s x n f).heap[w.heap.size + 1 + 1]? = some (.cells #[.string s] 9) := by
    simp only [e, Array.getElem?_push, Array.size_push]
    rw [if_neg (by omega), if_neg (by omega), if_pos trivial]
  have g3 : (allW w c p s x n f).heap[w.heap.size + 1 + 1 + 1]? = some (.cells #[x] 70) := by
    simp only [e, Array.getElem?_push, Array.size_push]
    rw [if_neg (by omega), if_pos trivial]
  have g4 : (allW w c p s x n f).heap[w.heap.size + 1 + 1 + 1 + 1]? = some (.cells #[f] 76) := by
    simp only [e, Array.getElem?_push, Array.size_push]
    rw [if_pos trivial]
  exact ⟨by rw [cell_of_row _ _ _ _ _ _ g0]; rfl, by rw [cell_of_row _ _ _ _ _ _ g1]; rfl, by rw [cell_of_row _ _ _ _ _ _ g2]; rfl, by rw [cell_of_row _ _ _ _ _ _ g3]; rfl, by rw [cell_of_row _ _ _ _ _ _ g4]; rfl⟩
theorem put_goes (h : Own own w m c bb cs fz fl) (hd : m.data ≤ 256) {k : Nat} (hk : k < m.n) (hp : (m.blk k).text.length < 32) (s : ByteArray) : Goes own w (putW w.drew bb k (m.blk k).text.length (cut m s)) c bb (put m k s) := by
  obtain ⟨cs', h'⟩ := h.drew.put hk hp (cut m s)
  exact ⟨⟨_, _, _, h'⟩, (Foot.drew own w).trans (Foot.putW h.ob)⟩
theorem program_goes (h : Own own w m c bb cs fz fl) (hn : m.n ≤ 64) (hp : m.pages ≤ 32) (hdt : m.data ≤ 256) (hfu : ∀ n t, m.fuse = some (n, t) → n ≤ 1073741824) (hd : m.dead = false) {k : Nat} (hk : k < m.n) (hl : (m.blk k).text.length < m.pages) (s : ByteArray) (hs : s.size ≤ m.data) :
    Calls Try.prog 19 #[.pointer (some ⟨c, 0, none⟩), .int .i64 (k : Int), .int .i64 ((m.blk k).text.length : Int), .string s] w (DeedPost own w c bb (deed m k (fun m => put m k s) (fun m t => put m k t) (fun m t => put m k t))) := by
  have hb3 : Own own (boxW w c ((m.blk k).text.length : Int) s) m c bb cs fz fl := ((h.alloc _).alloc _).alloc _
  have ca := at_yes hb3 hn hk
  have hb4 := hb3.alloc (.cells #[.pointer (some ⟨bb, k * 36, none⟩)] 70)
  have c3 := hb4.c3
  have c1 := hb4.c1
  have c2 := hb4.c2
  have c32 := hb4.b32 hk
  rw [hd] at c3
  have hw := within_any ((m.blk k).text.length : Int) 0 ((m.pages : Int) - 1)
  have hb : within ((m.blk k).text.length : Int) 0 ((m.pages : Int) - 1) = true := by unfold within; simp; omega
  rw [hb] at hw
  have q1 : decide ((m.data : Int) < (s.size : Int)) = false := decide_eq_false (by omega)
  have q2 : decide (m.data < s.size) = false := decide_eq_false (by omega)
  have hlt := h.lt
  have hdeed : ∀ n, Calls Try.prog 34 #[.pointer (some ⟨c, 0, none⟩), .pointer (some ⟨bb, k * 36, none⟩),
      .func (.func 35) #[] #[.pointer (some ⟨w.heap.size + 1 + 1 + 1 + 1, 0, none⟩), .pointer (some ⟨w.heap.size + 1 + 1, 0, none⟩)],
      .func (.func 32) #[] #[.pointer (some ⟨w.heap.size, 0, none⟩), .pointer (some ⟨w.heap.size + 1 + 1 + 1, 0, none⟩), .pointer (some ⟨w.heap.size + 1, 0, none⟩)],
      .func (.func 32) #[] #[.pointer (some ⟨w.heap.size, 0, none⟩), .pointer (some ⟨w.heap.size + 1 + 1 + 1, 0, none⟩), .pointer (some ⟨w.heap.size + 1, 0, none⟩)]]
      (allW w c ((m.blk k).text.length : Int) s (.pointer (some ⟨bb, k * 36, none⟩)) n (.func (.func 32) #[] #[.pointer (some ⟨w.heap.size, 0, none⟩), .pointer (some ⟨w.heap.size + 1 + 1 + 1, 0, none⟩), .pointer (some ⟨w.heap.size + 1, 0, none⟩)]))
      (DeedPost own w c bb (deed m k (fun m => put m k s) (fun m t => put m k t) (fun m t => put m k t))) := fun n => by
    have hsz := allW_size w c ((m.blk k).text.length : Int) s (.pointer (some ⟨bb, k * 36, none⟩)) n (.func (.func 32) #[] #[.pointer (some ⟨w.heap.size, 0, none⟩), .pointer (some ⟨w.heap.size + 1 + 1 + 1, 0, none⟩), .pointer (some ⟨w.heap.size + 1, 0, none⟩)])
    obtain ⟨x0, x1, x2, x3, x4⟩ := allW_cell w c ((m.blk k).text.length : Int) s (.pointer (some ⟨bb, k * 36, none⟩)) n (.func (.func 32) #[] #[.pointer (some ⟨w.heap.size, 0, none⟩), .pointer (some ⟨w.heap.size + 1 + 1 + 1, 0, none⟩), .pointer (some ⟨w.heap.size + 1, 0, none⟩)])
    have hbA : Own own (allW w c ((m.blk k).text.length : Int) s (.pointer (some ⟨bb, k * 36, none⟩)) n (.func (.func 32) #[] #[.pointer (some ⟨w.heap.size, 0, none⟩), .pointer (some ⟨w.heap.size + 1 + 1 + 1, 0, none⟩), .pointer (some ⟨w.heap.size + 1, 0, none⟩)])) m c bb cs fz fl := (hb4.drewN n).alloc _
    have hfA : Foot own w (allW w c ((m.blk k).text.length : Int) s (.pointer (some ⟨bb, k * 36, none⟩)) n (.func (.func 32) #[] #[.pointer (some ⟨w.heap.size, 0, none⟩), .pointer (some ⟨w.heap.size + 1 + 1 + 1, 0, none⟩), .pointer (some ⟨w.heap.size + 1, 0, none⟩)])) := (((((Foot.alloc own w _).trans (Foot.alloc own _ _)).trans (Foot.alloc own _ _)).trans (Foot.alloc own _ _)).trans (Foot.drewN own _ n)).trans (Foot.alloc own _ _)
    generalize allW w c ((m.blk k).text.length : Int) s (.pointer (some ⟨bb, k * 36, none⟩)) n (.func (.func 32) #[] #[.pointer (some ⟨w.heap.size, 0, none⟩), .pointer (some ⟨w.heap.size + 1 + 1 + 1, 0, none⟩), .pointer (some ⟨w.heap.size + 1, 0, none⟩)]) = WA at hsz x0 x1 x2 x3 x4 hbA hfA
    have no : ∀ i, w.heap.size ≤ i → ¬ own i := fun i hi ho => by have := hlt i ho; omega
    have hbx : ∀ i, w.heap.size ≤ i → bb ≠ i := fun i hi e => no i hi (e ▸ h.ob)
    have hput : ∀ (m1 : Chp) (t : ByteArray) (w1 : World) cs1 fz1 fl1, m1.n = m.n → m1.data = m.data → m1.blk = m.blk → Own own w1 m1 c bb cs1 fz1 fl1 → Foot own WA w1 →
        Calls Try.prog 32 (#[.string t] ++ #[.pointer (some ⟨w.heap.size, 0, none⟩), .pointer (some ⟨w.heap.size + 1 + 1 + 1, 0, none⟩), .pointer (some ⟨w.heap.size + 1, 0, none⟩)]) w1 fun e w2 => e = .returned (.tuple #[]) ∧ Goes own w1 w2 c bb (put m1 k t) := by
      intro m1 t w1 cs1 fz1 fl1 en ed eb h1 f1
      have hk1 : k < m1.n := by rw [en]; exact hk
      have hl1 : (m1.blk k).text.length < 32 := by rw [eb]; omega
      have hd1 : m1.data ≤ 256 := by rw [ed]; exact hdt
      refine (put_any h1 hd1 hk1 hl1 t _ _ _ (f1.cell (by omega) (no _ (by omega)) x0) (f1.cell (by omega) (no _ (by omega)) x3) (by rw [eb]; exact f1.cell (by omega) (no _ (by omega)) x1) (hbx _ (by omega))).mono ?_
      rintro e w2 ⟨rfl, rfl⟩
      exact ⟨rfl, put_goes h1 hd1 hk1 hl1 t⟩
    refine (deed_any hbA hk hfu (fun m => put m k s) (fun m t => put m k t) (fun m t => put m k t) (fun _ _ => rfl) _ _ _ _ _ _ enters32 enters30 enters30 ?_ ?_ ?_).mono ?_
    · intro w1 cs1 fz1 fl1 h1 f1
      refine (do_any h1 hdt hk (by show (m.blk k).text.length < 32; omega) s _ _ _ _ _ (f1.cell (by omega) (no _ (by omega)) x0) (f1.cell (by omega) (no _ (by omega)) x3) (f1.cell (by omega) (no _ (by omega)) x1) (f1.cell (by omega) (no _ (by omega)) x4) (f1.cell (by omega) (no _ (by omega)) x2) (hbx _ (by omega))).mono ?_
      rintro e w2 ⟨rfl, rfl⟩
      exact ⟨rfl, put_goes h1 hdt hk (by show (m.blk k).text.length < 32; omega) s⟩
    · intro t w1 cs1 fz1 fl1 h1 f1
      exact hput (dieM m) t w1 cs1 fz1 fl1 rfl rfl rfl h1 f1
    · intro t w1 cs1 fz1 fl1 h1 f1
      exact hput (burn m) t w1 cs1 fz1 fl1 rfl rfl rfl h1 f1
    · rintro e w2 ⟨he, hg⟩
      exact ⟨he, hg.1, hfA.trans hg.2⟩
  unfold allW boxW at hdeed
  unfold boxW at ca c3 c1 c2 c32
  generalize deed m k (fun m => put m k s) (fun m t => put m k t) (fun m t => put m k t) = r at hdeed
  generalize k * 36 = o at ca c3 c1 c2 c32 hdeed
  generalize m.pages = pg at hp c1 hw hl
  generalize m.data = dt at c2 q1 q2 hs hdt
  generalize (m.blk k).text.length = q at ca c3 c1 c2 c32 hw hdeed hl
  clear h hb3 hd hb hb4 hfu hlt
  go_enter Try.func19, Try.ntmps19
  go_wp2_with fail
  refine ca.mono ?_
  rintro e w' ⟨rfl, rfl⟩
  go_wp2_with fail
  go_quiet ((go_at_call 30; exact Calls.quiet_of_same (hw _)))
  go_wp2_with fail
  refine (hdeed _).mono ?_
  rintro e w' ⟨rfl, hg⟩
  go_wp2_with fail
  go_ret
  exact ⟨rfl, hg⟩
theorem mayPut_nat (m : Chp) (k : Nat) (hk : k < m.n) (p : Int) (s : ByteArray) : mayPut m (k : Int) p s = (within p 0 ((m.pages : Int) - 1) && decide (s.size ≤ m.data) && decide (p = ((m.blk k).text.length : Int))) := by
  unfold mayPut next at_
  rw [there_nat]
  simp [hk]
theorem ChipAt.below {own : Nat → Prop} {w w' : World} {c : Nat} {m : Chp} (h : ChipAt own w c m) (hb : Below w.heap.size w w') : ChipAt own w' c m := by
  obtain ⟨bb, cs, fz, fl, h⟩ := h
  exact ⟨bb, cs, fz, fl, h.same hb.size fun k ho => hb.block k (h.lt k ho)⟩
theorem program_any (h : ChipAt own w c m) {K : Nat} (ok : Ok m K) (b p : Int) (s : ByteArray) :
    Calls Try.prog 19 #[.pointer (some ⟨c, 0, none⟩), .int .i64 b, .int .i64 p, .string s] w fun e w' => e = .returned (.int .i64 (doProgram m b p s).1) ∧ ChipAt own w' c (doProgram m b p s).2 ∧ Foot own w w' := by
  have hC := h
  obtain ⟨bb, cs, fz, fl, h⟩ := h
  have hkeep : ∀ {e : Ending} {w' : World} {r : Int}, e = .returned (.int .i64 r) ∧ Below w.heap.size w w' → e = .returned (.int .i64 r) ∧ ChipAt own w' c m ∧ Foot own w w' := fun hh => ⟨hh.1, hC.below hh.2, Foot.of_below hh.2⟩
  have hdl := ok.d1
  unfold doProgram
  cases hd : m.dead with
  | true =>
    rw [if_pos rfl]
    exact (program_dead h ok.n1 hd b p s).mono fun e w' hh => hkeep hh
  | false =>
    rw [if_neg (by simp)]
    cases ht : there m b with
    | false =>
      have : mayPut m b p s = false := by unfold mayPut; rw [ht]; rfl
      rw [this, if_neg (by simp)]
      exact (program_none h ok.n1 hd b p ht s).mono fun e w' hh => hkeep hh
    | true =>
      obtain ⟨k, rfl, hk⟩ := there_of ht
      rw [mayPut_nat m k hk, Int.toNat_natCast]
      cases hw : within p 0 ((m.pages : Int) - 1) with
      | false =>
        rw [if_neg (by simp)]
        exact (program_off h ok.n1 ok.p1 hd hk p hw s).mono fun e w' hh => hkeep hh
      | true =>
        by_cases hs : s.size ≤ m.data
        · by_cases hp : p = ((m.blk k).text.length : Int)
          · subst hp
            have hl : (m.blk k).text.length < m.pages := by
              unfold within at hw
              simp at hw
              omega
            rw [if_pos (by simp [hs])]
            refine (program_goes h ok.n1 ok.p1 hdl ok.f hd hk hl s hs).mono ?_
            rintro e w' ⟨he, ⟨cs', fz', fl', h'⟩, hf⟩
            exact ⟨he, ⟨_, _, _, _, h'⟩, hf⟩
          · rw [if_neg (by simp [hp])]
            exact (program_other h ok.n1 ok.p1 hd hk p hw s hs hp).mono fun e w' hh => hkeep hh
        · rw [if_neg (by simp [hs])]
          exact (program_long h ok.n1 ok.p1 hd hk p hw s hs).mono fun e w' hh => hkeep hh
end
end Go.Proofs.Ytobkeakbahkglaa.ChipA
/- The walk of chip.New. -/
namespace Go.Proofs.Ytobkeakbahkglaa.ChipA
open Go.RowKit Go.Proofs.Ytobkeakbahkglaa.ChipM

def zb : Array Value := Array.replicate 32 (.string ⟨#[]⟩) ++ #[.int .i64 0, .int .i64 0, .bool false, .pointer none]
def rowN (n : Nat) : Array Value := madeCells zb (n * 36)
theorem infoB : (Try.prog.info? 75).map (fun i => (i.zero, i.size, i.bytes)) = some (some (.agg zb), 36, 544) := by kernel_rfl
theorem madeB (n : Nat) (h : n ≤ 64) (W : World) : (Instr.makeSlice 66 (.int .i64 (n : Int)) (.int .i64 (n : Int))).run Try.prog W = .ok (.slice (some ⟨W.heap.size, 0, none⟩) n n) (W.alloc (.cells (rowN n) 75)) := by
  obtain ⟨i, hi, hz0, hz1, hz2⟩ := info_parts infoB
  have := run_make (P := Try.prog) W 66 75 i (.agg zb) Try.underlying66 hi hz0 .i64 .i64 n n (by omega) (by omega) (by rw [hz2]; omega) (by omega)
  rw [this, hz1]
  rfl
theorem zb_size : zb.size = 36 := rfl
theorem zb_get (q : Nat) : zb[q]? = if q < 32 then some (.string ⟨#[]⟩) else (#[Value.int .i64 0, .int .i64 0, .bool false, .pointer none] : Array Value)[q - 32]? := by
  unfold zb
  rw [Array.getElem?_append]
  simp only [Array.size_replicate]
  by_cases h : q < 32
  · rw [if_pos h, if_pos h, Array.getElem?_replicate, if_pos h]
  · rw [if_neg h, if_neg h]
theorem rowN_get (n k q : Nat) (hk : k < n) (hq : q < 36) : (rowN n)[k * 36 + q]? = zb[q]? := by
  have hz : zb[q]? = some zb[q]! := by rw [getElem!_pos zb q (by rw [zb_size]; exact hq)]; exact Array.getElem?_eq_getElem _
  unfold rowN madeCells
  have hlt : k * 36 + q < n * 36 := by omega
  rw [Array.getElem?_map, Array.getElem?_range, if_pos hlt, hz, zb_size]
  simp only [Option.map_some]
  rw [show (k * 36 + q) % 36 = q by omega]
theorem rowN_blank (n k : Nat) (hk : k < n) : BlkAt (rowN n) (k * 36) Blk.blank none := by
  have g := fun q hq => rowN_get n k q hk hq
  refine ⟨fun q hq => ⟨⟨#[]⟩, by rw [g q (by omega), zb_get, if_pos hq]⟩, fun q hq => ?_, ?_, ?_, ?_, ?_⟩
  · simp [Blk.blank] at hq
  · rw [g 32 (by omega), zb_get]; rfl
  · rw [g 33 (by omega), zb_get]; rfl
  · rw [g 34 (by omega), zb_get]; rfl
  · rw [g 35 (by omega), zb_get]; rfl
def newW (w : World) (n p d : Nat) : World := (w.alloc (.cells (rowN n) 75)).alloc (.cells #[.slice (some ⟨w.heap.size, 0, none⟩) n n, .int .i64 p, .int .i64 d, .bool false, .pointer none] 69)
theorem newW_own (w : World) (n p d : Nat) : Own (fun k => k = w.heap.size ∨ k = w.heap.size + 1) (newW w n p d) (new n p d) (w.heap.size + 1) w.heap.size (rowN n) none (fun _ => none) where
  oc := Or.inr rfl
  ob := Or.inl rfl
  lt := fun k hk => by simp [newW]; omega
  ne := by omega
  hc := heap_alloc2_new w _ _
  hb := heap_alloc2_old w _ _
  bs := fun b hb => rowN_blank n b hb
  f0 := by simp [new]
  f1 := fun z hz => by cases hz
  l0 := fun b hb => by simp [new, Blk.blank]
  l1 := fun b hb z hz => by cases hz
theorem newW_below (w : World) (n p d : Nat) : Below w.heap.size w (newW w n p d) := below_step (below_alloc _ _) (below_alloc _ _)
/-- May a chip be so large? -/
def sizes (n p d : Int) : Bool := within n 2 64 && within p 2 32 && within d 32 256
attribute [irreducible] rowN
theorem new_yes (n p d : Nat) (hn : n ≤ 64) (h : sizes n p d = true) (w : World) :
    Calls Try.prog 18 #[.int .i64 (n : Int), .int .i64 (p : Int), .int .i64 (d : Int)] w fun e w' => e = .returned (.tuple #[.pointer (some ⟨w.heap.size + 1, 0, none⟩), .int .i64 0]) ∧ w' = newW w n p d := by
  unfold sizes at h
  simp only [Bool.and_eq_true] at h
  have h1 := within_any (n : Int) 2 64
  have h2 := within_any (p : Int) 2 32
  have h3 := within_any (d : Int) 32 256
  rw [h.1.1] at h1
  rw [h.1.2] at h2
  rw [h.2] at h3
  have hm := madeB n hn
  unfold newW
  clear h
  go_enter Try.func18, Try.ntmps18
  go_wp2_with fail
  refine (h1 _).mono ?_
  rintro e w' ⟨rfl, rfl⟩
  go_wp2_with fail
  refine (h2 _).mono ?_
  rintro e w' ⟨rfl, rfl⟩
  go_wp2_with fail
  refine (h3 _).mono ?_
  rintro e w' ⟨rfl, rfl⟩
  go_wp2_with fail
  go_ret2
  exact ⟨rfl, rfl⟩
theorem new_no (n p d : Int) (h : sizes n p d = false) (w : World) :
    Calls Try.prog 18 #[.int .i64 n, .int .i64 p, .int .i64 d] w fun e w' => e = .returned (.tuple #[.pointer none, .int .i64 1]) ∧ w' = w := by
  unfold sizes at h
  have h1 := within_any n 2 64
  have h2 := within_any p 2 32
  have h3 := within_any d 32 256
  cases e1 : within n 2 64 with
  | false =>
    rw [e1] at h1
    clear h h2 h3 e1
    go_enter Try.func18, Try.ntmps18
    go_wp2_with fail
    refine (h1 _).mono ?_
    rintro e w' ⟨rfl, rfl⟩
    go_wp2_with fail
    go_ret2
    exact ⟨rfl, rfl⟩
  | true =>
    cases e2 : within p 2 32 with
    | false =>
      rw [e1] at h1
      rw [e2] at h2
      clear h h3 e1 e2
      go_enter Try.func18, Try.ntmps18
      go_wp2_with fail
      refine (h1 _).mono ?_
      rintro e w' ⟨rfl, rfl⟩
      go_wp2_with fail
      refine (h2 _).mono ?_
      rintro e w' ⟨rfl, rfl⟩
      go_wp2_with fail
      go_ret2
      exact ⟨rfl, rfl⟩
    | true =>
      have e3 : within d 32 256 = false := by rw [e1, e2] at h; simpa using h
      rw [e1] at h1
      rw [e2] at h2
      rw [e3] at h3
      clear h e1 e2 e3
      go_enter Try.func18, Try.ntmps18
      go_wp2_with fail
      refine (h1 _).mono ?_
      rintro e w' ⟨rfl, rfl⟩
      go_wp2_with fail
      refine (h2 _).mono ?_
      rintro e w' ⟨rfl, rfl⟩
      go_wp2_with fail
      refine (h3 _).mono ?_
      rintro e w' ⟨rfl, rfl⟩
      go_wp2_with fail
      go_ret2
      exact ⟨rfl, rfl⟩
end Go.Proofs.Ytobkeakbahkglaa.ChipA
/- The contracts of a chip, in plain words, as the page seat wants them: New, Size, Read, Program. -/
namespace Go.Proofs.Ytobkeakbahkglaa.ChipA
open Go.RowKit Go.Proofs.Ytobkeakbahkglaa.ChipM
section
variable {own : Nat → Prop} {w w' : World} {m : Chp} {c K : Nat}
theorem ChipAt.drewN (h : ChipAt own w c m) (n : Nat) : ChipAt own (w.drewN n) c m := by
  obtain ⟨bb, cs, fz, fl, h⟩ := h
  exact ⟨_, _, _, _, h.drewN n⟩
theorem ChipAt.lt (h : ChipAt own w c m) : ∀ k, own k → k < w.heap.size := by
  obtain ⟨bb, cs, fz, fl, h⟩ := h
  exact h.lt
theorem ChipAt.same (h : ChipAt own w c m) (hs : w.heap.size ≤ w'.heap.size) (hb : ∀ k, own k → w'.heap[k]? = w.heap[k]?) : ChipAt own w' c m := by
  obtain ⟨bb, cs, fz, fl, h⟩ := h
  exact ⟨_, _, _, _, h.same hs hb⟩
end
end Go.Proofs.Ytobkeakbahkglaa.ChipA
namespace Go.Proofs.Ytobkeakbahkglaa.ChipC
open Go.RowKit Go.Proofs.Ytobkeakbahkglaa.ChipM Go.Proofs.Ytobkeakbahkglaa.ChipA
section
variable {own : Nat → Prop} {w w' : World} {m : Chp} {c K : Nat}
theorem size_c (h : ChipAt own w c m) : Calls Try.prog 46 #[.pointer (some ⟨c, 0, none⟩)] w fun e w' => e = .returned (.tuple #[.int .i64 m.n, .int .i64 m.pages, .int .i64 m.data]) ∧ ∃ n, w' = w.drewN n := by
  obtain ⟨bb, cs, fz, fl, h⟩ := h
  exact size_any h
theorem read_c (h : ChipAt own w c m) (ok : Ok m K) (b p : Int) : Calls Try.prog 47 #[.pointer (some ⟨c, 0, none⟩), .int .i64 b, .int .i64 p] w fun e w' => e = .returned (.tuple #[.string (readAt m b p).1, .bool (readAt m b p).2]) ∧ w' = w := by
  obtain ⟨bb, cs, fz, fl, h⟩ := h
  exact read_any h ok.n1 (fun k => Nat.le_trans (ok.t k) ok.p1) b p
/-- What a deed leaves: an answer, the chip, all else as it was. -/
structure ToldC (own : Nat → Prop) (w : World) (c : Nat) (r : Int × Chp) (e : Ending) (w' : World) : Prop where
  e : e = .returned (.int .i64 r.1)
  h : ChipAt own w' c r.2
  f : Foot own w w'
theorem program_c (h : ChipAt own w c m) (ok : Ok m K) (b p : Int) (s : ByteArray) : Calls Try.prog 19 #[.pointer (some ⟨c, 0, none⟩), .int .i64 b, .int .i64 p, .string s] w (ToldC own w c (doProgram m b p s)) :=
  (program_any h ok b p s).mono fun _ _ hh => ⟨hh.1, hh.2.1, hh.2.2⟩
/-- A chip that is made: what it owns was not there. -/
structure Made (w : World) (n p d : Nat) (e : Ending) (w' : World) : Prop where
  e : e = .returned (.tuple #[.pointer (some ⟨w.heap.size + 1, 0, none⟩), .int .i64 0])
  h : ChipAt (fun k => k = w.heap.size ∨ k = w.heap.size + 1) w' (w.heap.size + 1) (new n p d)
  f : Below w.heap.size w w'
theorem new_c (n p d : Nat) (h : sizes n p d = true) (w : World) : Calls Try.prog 18 #[.int .i64 (n : Int), .int .i64 (p : Int), .int .i64 (d : Int)] w (Made w n p d) := by
  have hn : n ≤ 64 := by
    unfold sizes within at h
    simp at h
    omega
  refine (new_yes n p d hn h w).mono ?_
  rintro e w' ⟨rfl, rfl⟩
  exact ⟨rfl, ⟨_, _, _, _, newW_own w n p d⟩, newW_below w n p d⟩
theorem ok_new {n p d : Nat} (h : sizes n p d = true) : Ok (new n p d) 0 := by
  unfold sizes within at h
  simp at h
  exact Ok.new (by omega) (by omega) (by omega)
end
end Go.Proofs.Ytobkeakbahkglaa.ChipC
