/- The walk of a chip's Program. -/
import Derived.Test.YtfjnjhlmmdeilaaChipE
set_option linter.unusedVariables false
namespace Go.Proofs.Ytfjnjhlmmdeilaa.ChipA
open Go.RowKit Go.Proofs.Ytfjnjhlmmdeilaa.ChipM

section
variable {own : Nat → Prop} {w w' : World} {m : Chp} {c bb : Nat} {cs : Array Value} {fz : Option Nat} {fl : Nat → Option Nat}
/-- The world behind Program's boxes. -/
def boxW (w : World) (c : Nat) (p : Int) (s : ByteArray) : World := ((w.alloc (.cells #[.pointer (some ⟨c, 0, none⟩)] 24)).alloc (.cells #[.int .i64 p] 3)).alloc (.cells #[.string s] 9)
theorem below_drewN {B : Nat} {a w : World} (h : Below B a w) (n : Nat) : Below B a (w.drewN n) := ⟨h.os, h.tape, h.output, h.size, h.block⟩
theorem below_alloc (w : World) (o : Obj) : Below w.heap.size w (w.alloc o) := (Below.refl _ _).alloc (Nat.le_refl _) o
theorem below_step {a b c : World} (h : Below a.heap.size a b) (k : Below b.heap.size b c) : Below a.heap.size a c := h.trans (k.mono h.size)
theorem boxW_below (w : World) (c : Nat) (p : Int) (s : ByteArray) (o : Obj) : Below w.heap.size w ((boxW w c p s).alloc o) := below_step (below_step (below_step (below_alloc _ _) (below_alloc _ _)) (below_alloc _ _)) (below_alloc _ _)
theorem program_dead (h : Own own w m c bb cs fz fl) (hn : m.n ≤ 64) (hd : m.dead = true) (b p : Int) (s : ByteArray) :
    Calls Try.prog 14 #[.pointer (some ⟨c, 0, none⟩), .int .i64 b, .int .i64 p, .string s] w fun e w' => e = .returned (.int .i64 14) ∧ Below w.heap.size w w' := by
  have hb3 : Own own (boxW w c p s) m c bb cs fz fl := ((h.alloc _).alloc _).alloc _
  have ca : ∃ x, Calls Try.prog 25 #[.pointer (some ⟨c, 0, none⟩), .int .i64 b] (boxW w c p s) fun e w' => e = .returned (.pointer x) ∧ w' = boxW w c p s := by
    cases hb : there m b with
    | false => exact ⟨_, at_no hb3 hn hb⟩
    | true =>
      obtain ⟨k, rfl, hk⟩ := there_of hb
      exact ⟨_, at_yes hb3 hn hk⟩
  obtain ⟨x, ca⟩ := ca
  have c3 := (hb3.alloc (.cells #[.pointer x] 57)).c3
  rw [hd] at c3
  have hfin : ∀ o, Below w.heap.size w ((boxW w c p s).alloc o) := fun o => boxW_below w c p s o
  unfold boxW at ca hfin c3
  clear h hb3 hd
  go_enter Try.func14, Try.ntmps14
  go_wp2_with fail
  refine ca.mono ?_
  rintro e w' ⟨rfl, rfl⟩
  go_wp2_with fail
  go_ret
  exact ⟨rfl, hfin _⟩
theorem program_none (h : Own own w m c bb cs fz fl) (hn : m.n ≤ 64) (hd : m.dead = false) (b p : Int) (hb : there m b = false) (s : ByteArray) :
    Calls Try.prog 14 #[.pointer (some ⟨c, 0, none⟩), .int .i64 b, .int .i64 p, .string s] w fun e w' => e = .returned (.int .i64 1) ∧ Below w.heap.size w w' := by
  have hb3 : Own own (boxW w c p s) m c bb cs fz fl := ((h.alloc _).alloc _).alloc _
  have ca := at_no hb3 hn hb
  have c3 := (hb3.alloc (.cells #[.pointer none] 57)).c3
  rw [hd] at c3
  have hfin : ∀ o n, Below w.heap.size w (((boxW w c p s).alloc o).drewN n) := fun o n => below_drewN (boxW_below w c p s o) n
  unfold boxW at ca hfin c3
  clear h hb3 hd hb
  go_enter Try.func14, Try.ntmps14
  go_wp2_with fail
  refine ca.mono ?_
  rintro e w' ⟨rfl, rfl⟩
  go_wp2_with fail
  go_quiet (fail)
  go_wp2_with fail
  go_ret
  exact ⟨rfl, hfin _ _⟩
theorem program_off (h : Own own w m c bb cs fz fl) (hn : m.n ≤ 64) (hp : m.pages ≤ 32) (hd : m.dead = false) {k : Nat} (hk : k < m.n) (p : Int) (hb : within p 0 ((m.pages : Int) - 1) = false) (s : ByteArray) :
    Calls Try.prog 14 #[.pointer (some ⟨c, 0, none⟩), .int .i64 (k : Int), .int .i64 p, .string s] w fun e w' => e = .returned (.int .i64 1) ∧ Below w.heap.size w w' := by
  have hb3 : Own own (boxW w c p s) m c bb cs fz fl := ((h.alloc _).alloc _).alloc _
  have ca := at_yes hb3 hn hk
  have hb4 := hb3.alloc (.cells #[.pointer (some ⟨bb, k * 36, none⟩)] 57)
  have c3 := hb4.c3
  have c1 := hb4.c1
  rw [hd] at c3
  have hw := within_any p 0 ((m.pages : Int) - 1)
  rw [hb] at hw
  have hfin : ∀ o n, Below w.heap.size w (((boxW w c p s).alloc o).drewN n) := fun o n => below_drewN (boxW_below w c p s o) n
  unfold boxW at ca hfin c3 c1
  generalize k * 36 = o at ca c3 c1
  generalize m.pages = pg at hp c1 hw
  clear h hb3 hd hb hb4
  go_enter Try.func14, Try.ntmps14
  go_wp2_with fail
  refine ca.mono ?_
  rintro e w' ⟨rfl, rfl⟩
  go_wp2_with fail
  go_quiet ((go_at_call 24; exact Calls.quiet_of_same (hw _)))
  go_wp2_with fail
  go_ret
  exact ⟨rfl, hfin _ _⟩
theorem program_long (h : Own own w m c bb cs fz fl) (hn : m.n ≤ 64) (hp : m.pages ≤ 32) (hd : m.dead = false) {k : Nat} (hk : k < m.n) (p : Int) (hb : within p 0 ((m.pages : Int) - 1) = true) (s : ByteArray) (hl : ¬ s.size ≤ m.data) :
    Calls Try.prog 14 #[.pointer (some ⟨c, 0, none⟩), .int .i64 (k : Int), .int .i64 p, .string s] w fun e w' => e = .returned (.int .i64 1) ∧ Below w.heap.size w w' := by
  have hb3 : Own own (boxW w c p s) m c bb cs fz fl := ((h.alloc _).alloc _).alloc _
  have ca := at_yes hb3 hn hk
  have hb4 := hb3.alloc (.cells #[.pointer (some ⟨bb, k * 36, none⟩)] 57)
  have c3 := hb4.c3
  have c1 := hb4.c1
  have c2 := hb4.c2
  have c32 := hb4.b32 hk
  rw [hd] at c3
  have hw := within_any p 0 ((m.pages : Int) - 1)
  rw [hb] at hw
  have q1 : decide ((m.data : Int) < (s.size : Int)) = true := decide_eq_true (by omega)
  have q2 : decide (m.data < s.size) = true := decide_eq_true (by omega)
  have hfin : ∀ o n, Below w.heap.size w (((boxW w c p s).alloc o).drewN n) := fun o n => below_drewN (boxW_below w c p s o) n
  unfold boxW at ca hfin c3 c1 c2 c32
  generalize k * 36 = o at ca c3 c1 c2 c32
  generalize m.pages = pg at hp c1 hw
  generalize m.data = dt at hl c2 q1 q2
  clear c32
  clear h hb3 hd hb hb4 hl
  go_enter Try.func14, Try.ntmps14
  go_wp2_with fail
  refine ca.mono ?_
  rintro e w' ⟨rfl, rfl⟩
  go_wp2_with fail
  go_quiet ((go_at_call 24; exact Calls.quiet_of_same (hw _)))
  go_wp2_with fail
  go_ret
  exact ⟨rfl, hfin _ _⟩
theorem program_other (h : Own own w m c bb cs fz fl) (hn : m.n ≤ 64) (hp : m.pages ≤ 32) (hd : m.dead = false) {k : Nat} (hk : k < m.n) (p : Int) (hb : within p 0 ((m.pages : Int) - 1) = true) (s : ByteArray) (hl : s.size ≤ m.data) (hne : ¬ p = ((m.blk k).text.length : Int)) :
    Calls Try.prog 14 #[.pointer (some ⟨c, 0, none⟩), .int .i64 (k : Int), .int .i64 p, .string s] w fun e w' => e = .returned (.int .i64 1) ∧ Below w.heap.size w w' := by
  have hb3 : Own own (boxW w c p s) m c bb cs fz fl := ((h.alloc _).alloc _).alloc _
  have ca := at_yes hb3 hn hk
  have hb4 := hb3.alloc (.cells #[.pointer (some ⟨bb, k * 36, none⟩)] 57)
  have c3 := hb4.c3
  have c1 := hb4.c1
  have c2 := hb4.c2
  have c32 := hb4.b32 hk
  rw [hd] at c3
  have hw := within_any p 0 ((m.pages : Int) - 1)
  rw [hb] at hw
  have q1 : decide ((m.data : Int) < (s.size : Int)) = false := decide_eq_false (by omega)
  have q2 : decide (m.data < s.size) = false := decide_eq_false (by omega)
  have q3 : (p == ((m.blk k).text.length : Int)) = false := beq_eq_false_iff_ne.2 hne
  have q4 : (p != ((m.blk k).text.length : Int)) = true := bne_iff_ne.2 hne
  have hfin : ∀ o n, Below w.heap.size w (((boxW w c p s).alloc o).drewN n) := fun o n => below_drewN (boxW_below w c p s o) n
  unfold boxW at ca hfin c3 c1 c2 c32
  generalize k * 36 = o at ca c3 c1 c2 c32
  generalize m.pages = pg at hp c1 hw
  generalize m.data = dt at hl c2 q1 q2
  generalize ((m.blk k).text.length : Int) = q at c32 q3 q4 hne
  clear h hb3 hd hb hb4 hl hne
  go_enter Try.func14, Try.ntmps14
  go_wp2_with fail
  refine ca.mono ?_
  rintro e w' ⟨rfl, rfl⟩
  go_wp2_with fail
  go_quiet ((go_at_call 24; exact Calls.quiet_of_same (hw _)))
  go_wp2_with fail
  go_ret
  exact ⟨rfl, hfin _ _⟩
end
end Go.Proofs.Ytfjnjhlmmdeilaa.ChipA
