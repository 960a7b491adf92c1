/- The walk of the reference's Program, case by case. -/
import Derived.Test.YtfjnjhlmmdeilaaRefO
import Derived.StillTailTactics
set_option linter.unusedVariables false
namespace Go.Proofs.Ytfjnjhlmmdeilaa.RefA
open Go.RowKit Go.Proofs.Ytfjnjhlmmdeilaa.ChipM Go.Proofs.Ytfjnjhlmmdeilaa.ChipA

section
variable {own : Nat → Prop} {w w' : World} {m : Chp} {r rb cap : Nat} {cs : Array Value} {pg : Nat → Nat} {fu : Int} {tx : ByteArray}
theorem RO.drew (h : RO own w m r rb cap cs pg fu tx) : RO own w.drew m r rb cap cs pg fu tx := h.same (Nat.le_refl _) fun _ _ => rfl
theorem RO.b3x (h : RO own w m r rb cap cs pg fu tx) {k : Nat} (hk : k < m.n) : (w.setCell ⟨rb, k * 5 + 2, none⟩ (.bool true)).drew.cell? ⟨rb, k * 5 + 3, none⟩ = some (.bool (m.blk k).fails.isSome) := by
  show (w.setCell ⟨rb, k * 5 + 2, none⟩ (.bool true)).cell? ⟨rb, k * 5 + 3, none⟩ = _
  rw [cell_of_row _ _ _ _ _ _ (heap_setCell_same _ _ _ _ _ _ h.hb), Array.getElem?_setIfInBounds, if_neg (by omega)]
  exact (h.bs k hk).f
theorem RO.b3y (h : RO own w m r rb cap cs pg fu tx) {k : Nat} (o : Nat) : (w.setCell ⟨rb, k * 5 + 2, none⟩ (.bool true)).drew.frozen? ⟨rb, o, none⟩ = false :=
  frozen_of_row _ _ _ _ _ (heap_setCell_same _ _ _ _ _ _ h.hb)
theorem RO.b4 (h : RO own w m r rb cap cs pg fu tx) {k : Nat} (hk : k < m.n) {t : ByteArray} (hf : (m.blk k).fails = some t) : w.cell? ⟨rb, k * 5 + 4, none⟩ = some (.string t) := by
  obtain ⟨u, hu, hu2⟩ := (h.bs k hk).t
  rw [cell_of_row _ _ _ _ _ _ h.hb, hu, hu2 t hf]
theorem prog_dead (h : RO own w m r rb cap cs pg fu tx) (hd : m.dead = true) (b p : Int) (s : ByteArray) :
    Calls Try.prog 33 #[.pointer (some ⟨r, 0, none⟩), .int .i64 b, .int .i64 p, .string s] w fun e w' => e = .returned (.int .i64 14) ∧ w' = w := by
  have c3 := h.c3
  rw [hd] at c3
  clear h hd
  go_enter Try.func33, Try.ntmps33
  go_wp2_with fail
  go_ret
  exact ⟨rfl, rfl⟩
theorem prog_none (h : RO own w m r rb cap cs pg fu tx) {K : Nat} (ok : Ok m K) (hd : m.dead = false) {b : Int} (hb : there m b = false) (p : Int) (s : ByteArray) :
    Calls Try.prog 33 #[.pointer (some ⟨r, 0, none⟩), .int .i64 b, .int .i64 p, .string s] w fun e w' => e = .returned (.int .i64 1) ∧ w' = w := by
  have c3 := h.c3
  rw [hd] at c3
  have ct := there_rany h ok.n1 b
  rw [hb] at ct
  clear h hd hb ok
  go_enter Try.func33, Try.ntmps33
  go_wp2_with fail
  refine ct.mono ?_
  rintro e w' ⟨rfl, rfl⟩
  go_wp2_with fail
  go_ret
  exact ⟨rfl, rfl⟩
theorem prog_neg (h : RO own w m r rb cap cs pg fu tx) {K : Nat} (ok : Ok m K) (hd : m.dead = false) {k : Nat} (hk : k < m.n) {p : Int} (hp : p < 0) (s : ByteArray) :
    Calls Try.prog 33 #[.pointer (some ⟨r, 0, none⟩), .int .i64 (k : Int), .int .i64 p, .string s] w fun e w' => e = .returned (.int .i64 1) ∧ w' = w := by
  have ht : there m (k : Int) = true := by rw [there_nat]; simpa using hk
  have ct := there_rany h ok.n1 (k : Int)
  rw [ht] at ct
  have c1 := h.c1
  have c2 := h.c2
  have c3 := h.c3
  rw [hd] at c3
  have hpg := ok.p1
  have hdt := ok.d1
  clear h hd ok ht hk
  go_enter Try.func33, Try.ntmps33
  go_wp2_with fail
  refine ct.mono ?_
  rintro e w' ⟨rfl, rfl⟩
  go_wp2_with fail
  go_ret
  exact ⟨rfl, rfl⟩
theorem prog_out (h : RO own w m r rb cap cs pg fu tx) {K : Nat} (ok : Ok m K) (hd : m.dead = false) {k : Nat} (hk : k < m.n) {p : Int} (hp : ¬ p < 0) (hp2 : (m.pages : Int) ≤ p) (s : ByteArray) :
    Calls Try.prog 33 #[.pointer (some ⟨r, 0, none⟩), .int .i64 (k : Int), .int .i64 p, .string s] w fun e w' => e = .returned (.int .i64 1) ∧ w' = w := by
  have ht : there m (k : Int) = true := by rw [there_nat]; simpa using hk
  have ct := there_rany h ok.n1 (k : Int)
  rw [ht] at ct
  have c1 := h.c1
  have c2 := h.c2
  have c3 := h.c3
  rw [hd] at c3
  have hpg := ok.p1
  have hdt := ok.d1
  generalize m.pages = pp at c1 hpg hp2
  generalize m.data = dt at c2 hdt
  clear h hd ok ht hk
  go_enter Try.func33, Try.ntmps33
  go_wp2_with fail
  refine ct.mono ?_
  rintro e w' ⟨rfl, rfl⟩
  go_wp2_with fail
  go_ret
  exact ⟨rfl, rfl⟩
theorem prog_long (h : RO own w m r rb cap cs pg fu tx) {K : Nat} (ok : Ok m K) (hd : m.dead = false) {k : Nat} (hk : k < m.n) {p : Int} (hp : ¬ p < 0) (hp2 : ¬ (m.pages : Int) ≤ p) (s : ByteArray) (hs : ¬ s.size ≤ m.data) :
    Calls Try.prog 33 #[.pointer (some ⟨r, 0, none⟩), .int .i64 (k : Int), .int .i64 p, .string s] w fun e w' => e = .returned (.int .i64 1) ∧ w' = w := by
  have ht : there m (k : Int) = true := by rw [there_nat]; simpa using hk
  have ct := there_rany h ok.n1 (k : Int)
  rw [ht] at ct
  have c1 := h.c1
  have c2 := h.c2
  have c3 := h.c3
  rw [hd] at c3
  have hpg := ok.p1
  have hdt := ok.d1
  have q1 : decide ((m.data : Int) < (s.size : Int)) = true := decide_eq_true (by omega)
  have q2 : decide (m.data < s.size) = true := decide_eq_true (by omega)
  generalize m.pages = pp at c1 hpg hp2
  generalize m.data = dt at c2 hdt q1 q2 hs
  clear h hd ok ht hk hs
  go_enter Try.func33, Try.ntmps33
  go_wp2_with fail
  refine ct.mono ?_
  rintro e w' ⟨rfl, rfl⟩
  go_wp2_with fail
  go_ret
  exact ⟨rfl, rfl⟩
theorem prog_other (h : RO own w m r rb cap cs pg fu tx) {K : Nat} (ok : Ok m K) (hd : m.dead = false) {k : Nat} (hk : k < m.n) {p : Int} (hp : ¬ p < 0) (hp2 : ¬ (m.pages : Int) ≤ p) (s : ByteArray) (hs : s.size ≤ m.data) (hne : ¬ p = ((m.blk k).text.length : Int)) :
    Calls Try.prog 33 #[.pointer (some ⟨r, 0, none⟩), .int .i64 (k : Int), .int .i64 p, .string s] w fun e w' => e = .returned (.int .i64 1) ∧ w' = w := by
  have ht : there m (k : Int) = true := by rw [there_nat]; simpa using hk
  have ct := there_rany h ok.n1 (k : Int)
  rw [ht] at ct
  have c1 := h.c1
  have c2 := h.c2
  have c3 := h.c3
  rw [hd] at c3
  have hpg := ok.p1
  have hdt := ok.d1
  have cn := next_rany h ok (k : Int)
  unfold next at_ at cn
  rw [ht, if_pos rfl, Int.toNat_natCast] at cn
  have q1 : decide ((m.data : Int) < (s.size : Int)) = false := decide_eq_false (by omega)
  have q2 : decide (m.data < s.size) = false := decide_eq_false (by omega)
  have q3 : (p == ((m.blk k).text.length : Int)) = false := beq_eq_false_iff_ne.2 hne
  have q4 : (p != ((m.blk k).text.length : Int)) = true := bne_iff_ne.2 hne
  generalize ((m.blk k).text.length : Int) = q at cn q3 q4 hne
  generalize m.pages = pp at c1 hpg hp2
  generalize m.data = dt at c2 hdt q1 q2 hs
  clear h hd ok ht hk hs hne
  go_enter Try.func33, Try.ntmps33
  go_wp2_with fail
  refine ct.mono ?_
  rintro e w' ⟨rfl, rfl⟩
  go_wp2_with fail
  refine cn.mono ?_
  rintro e w' ⟨rfl, rfl⟩
  go_wp2_with fail
  go_ret
  exact ⟨rfl, rfl⟩
set_option maxHeartbeats 1000000 in
theorem prog_bad (h : RO own w m r rb cap cs pg fu tx) {K : Nat} (ok : Ok m K) (hd : m.dead = false) {k : Nat} (hk : k < m.n) (hl : (m.blk k).text.length < m.pages) (s : ByteArray) (hs : s.size ≤ m.data) (hb : (m.blk k).bad = true) :
    Calls Try.prog 33 #[.pointer (some ⟨r, 0, none⟩), .int .i64 (k : Int), .int .i64 ((m.blk k).text.length : Int), .string s] w fun e w' => e = .returned (.int .i64 15) ∧ w' = w := by
  have ht : there m (k : Int) = true := by rw [there_nat]; simpa using hk
  have ct := there_rany h ok.n1 (k : Int)
  rw [ht] at ct
  have c1 := h.c1
  have c2 := h.c2
  have c3 := h.c3
  rw [hd] at c3
  have hpg := ok.p1
  have hdt := ok.d1
  have cn := next_rany h ok (k : Int)
  unfold next at_ at cn
  rw [ht, if_pos rfl, Int.toNat_natCast] at cn
  have c0 := h.c0
  have c4 := h.c4
  have d0 := h.b0 hk
  have d2 := h.b2 hk
  obtain ⟨⟨v0, hv0⟩, ⟨v1, hv1⟩, hvf⟩ := h.pcell hk hl
  have hk2 : (k : Int) < (m.n : Int) := by omega
  have hn := ok.n1
  have p0 : decide (((m.blk k).text.length : Int) < 0) = false := decide_eq_false (by omega)
  have p1 : decide ((m.pages : Int) ≤ ((m.blk k).text.length : Int)) = false := decide_eq_false (by omega)
  have p2 : decide (m.pages ≤ (m.blk k).text.length) = false := decide_eq_false (by omega)
  have p3 : ((m.blk k).text.length : Int) < (m.pages : Int) := by omega
  have p4 : ¬ (((m.blk k).text.length : Int) < 0) := by omega
  have p5 : ¬ ((m.pages : Int) ≤ ((m.blk k).text.length : Int)) := by omega
  have q1 : decide ((m.data : Int) < (s.size : Int)) = false := decide_eq_false (by omega)
  have q2 : decide (m.data < s.size) = false := decide_eq_false (by omega)
  rw [hb] at d2
  generalize m.fuse.isSome = fs at c4
  generalize (m.blk k).text.length = q at cn hl p0 p1 p2 p3 p4 p5 hv0 hv1
  generalize m.pages = pp at c1 hpg hl p1 p2 p3 p5 d0
  generalize m.data = dt at c2 hdt hs q1 q2
  generalize m.n = nn at c0 hk hk2 hn
  generalize pg k = g at d0 hv0 hv1 hvf
  clear h ok ht hb hd hs hl
  go_enter Try.func33, Try.ntmps33
  go_wp2_with fail
  refine ct.mono ?_
  rintro e w' ⟨rfl, rfl⟩
  go_wp2_with fail
  refine cn.mono ?_
  rintro e w' ⟨rfl, rfl⟩
  go_wp2_with fail
  go_ret
  exact ⟨rfl, rfl⟩
set_option maxHeartbeats 1000000 in
theorem prog_dead0 (h : RO own w m r rb cap cs pg fu tx) {K : Nat} (ok : Ok m K) (hd : m.dead = false) {k : Nat} (hk : k < m.n) (hl : (m.blk k).text.length < m.pages) (s : ByteArray) (hs : s.size ≤ m.data) (hb : (m.blk k).bad = false) {t : ByteArray} (hf : m.fuse = some (0, t)) (hte : t.toList.isEmpty = true) :
    Calls Try.prog 33 #[.pointer (some ⟨r, 0, none⟩), .int .i64 (k : Int), .int .i64 ((m.blk k).text.length : Int), .string s] w fun e w' => e = .returned (.int .i64 14) ∧ w' = w.setCell ⟨r, 3, none⟩ (.bool true) := by
  have ht : there m (k : Int) = true := by rw [there_nat]; simpa using hk
  have ct := there_rany h ok.n1 (k : Int)
  rw [ht] at ct
  have c1 := h.c1
  have c2 := h.c2
  have c3 := h.c3
  rw [hd] at c3
  have hpg := ok.p1
  have hdt := ok.d1
  have cn := next_rany h ok (k : Int)
  unfold next at_ at cn
  rw [ht, if_pos rfl, Int.toNat_natCast] at cn
  have c0 := h.c0
  have c4 := h.c4
  have d0 := h.b0 hk
  have d2 := h.b2 hk
  obtain ⟨⟨v0, hv0⟩, ⟨v1, hv1⟩, hvf⟩ := h.pcell hk hl
  have hk2 : (k : Int) < (m.n : Int) := by omega
  have hn := ok.n1
  have p0 : decide (((m.blk k).text.length : Int) < 0) = false := decide_eq_false (by omega)
  have p1 : decide ((m.pages : Int) ≤ ((m.blk k).text.length : Int)) = false := decide_eq_false (by omega)
  have p2 : decide (m.pages ≤ (m.blk k).text.length) = false := decide_eq_false (by omega)
  have p3 : ((m.blk k).text.length : Int) < (m.pages : Int) := by omega
  have p4 : ¬ (((m.blk k).text.length : Int) < 0) := by omega
  have p5 : ¬ ((m.pages : Int) ≤ ((m.blk k).text.length : Int)) := by omega
  have q1 : decide ((m.data : Int) < (s.size : Int)) = false := decide_eq_false (by omega)
  have q2 : decide (m.data < s.size) = false := decide_eq_false (by omega)
  rw [hb] at d2
  obtain ⟨e5, e6⟩ := h.f _ _ hf
  have c5 := h.c5
  have c6 := h.c6
  rw [e5] at c5
  rw [e6] at c6
  rw [hf] at c4
  simp only [Option.isSome_some] at c4
  have rf := h.rfroz
  have t1 : t.toList = [] := by simpa using hte
  have t2 : (!t.toList.isEmpty) = false := by rw [hte]; rfl
  have h1 : RO own (w.setCell ⟨r, 3, none⟩ (.bool true)) (dieM m) r rb cap cs pg fu tx := h.dead true
  have x6 := h1.c6
  rw [e6] at x6
  clear h1
  generalize (m.blk k).text.length = q at cn hl p0 p1 p2 p3 p4 p5 hv0 hv1
  generalize m.pages = pp at c1 hpg hl p1 p2 p3 p5 d0
  generalize m.data = dt at c2 hdt hs q1 q2
  generalize m.n = nn at c0 hk hk2 hn
  generalize pg k = g at d0 hv0 hv1 hvf
  clear h ok ht hb hd hs hl hf e5 e6
  go_enter Try.func33, Try.ntmps33
  go_wp2_with fail
  refine ct.mono ?_
  rintro e w' ⟨rfl, rfl⟩
  go_wp2_with fail
  refine cn.mono ?_
  rintro e w' ⟨rfl, rfl⟩
  go_wp2_with fail
  go_ret
  exact ⟨rfl, rfl⟩
set_option maxHeartbeats 1000000 in
theorem prog_dies (h : RO own w m r rb cap cs pg fu tx) {K : Nat} (ok : Ok m K) (hd : m.dead = false) {k : Nat} (hk : k < m.n) (hl : (m.blk k).text.length < m.pages) (s : ByteArray) (hs : s.size ≤ m.data) (hb : (m.blk k).bad = false) {t : ByteArray} (hf : m.fuse = some (0, t)) (hte : t.toList.isEmpty = false) :
    Calls Try.prog 33 #[.pointer (some ⟨r, 0, none⟩), .int .i64 (k : Int), .int .i64 ((m.blk k).text.length : Int), .string s] w fun e w' => e = .returned (.int .i64 14) ∧ w' = (putR (w.setCell ⟨r, 3, none⟩ (.bool true)) (pg k) (m.blk k).text.length (cut m t)).drew := by
  have ht : there m (k : Int) = true := by rw [there_nat]; simpa using hk
  have ct := there_rany h ok.n1 (k : Int)
  rw [ht] at ct
  have c1 := h.c1
  have c2 := h.c2
  have c3 := h.c3
  rw [hd] at c3
  have hpg := ok.p1
  have hdt := ok.d1
  have cn := next_rany h ok (k : Int)
  unfold next at_ at cn
  rw [ht, if_pos rfl, Int.toNat_natCast] at cn
  have c0 := h.c0
  have c4 := h.c4
  have d0 := h.b0 hk
  have d2 := h.b2 hk
  obtain ⟨⟨v0, hv0⟩, ⟨v1, hv1⟩, hvf⟩ := h.pcell hk hl
  have hk2 : (k : Int) < (m.n : Int) := by omega
  have hn := ok.n1
  have p0 : decide (((m.blk k).text.length : Int) < 0) = false := decide_eq_false (by omega)
  have p1 : decide ((m.pages : Int) ≤ ((m.blk k).text.length : Int)) = false := decide_eq_false (by omega)
  have p2 : decide (m.pages ≤ (m.blk k).text.length) = false := decide_eq_false (by omega)
  have p3 : ((m.blk k).text.length : Int) < (m.pages : Int) := by omega
  have p4 : ¬ (((m.blk k).text.length : Int) < 0) := by omega
  have p5 : ¬ ((m.pages : Int) ≤ ((m.blk k).text.length : Int)) := by omega
  have q1 : decide ((m.data : Int) < (s.size : Int)) = false := decide_eq_false (by omega)
  have q2 : decide (m.data < s.size) = false := decide_eq_false (by omega)
  rw [hb] at d2
  obtain ⟨e5, e6⟩ := h.f _ _ hf
  have c5 := h.c5
  have c6 := h.c6
  rw [e5] at c5
  rw [e6] at c6
  rw [hf] at c4
  simp only [Option.isSome_some] at c4
  have rf := h.rfroz
  have t1 : ¬ t.toList = [] := by simpa using hte
  have t2 : (!t.toList.isEmpty) = true := by rw [hte]; rfl
  have h1 : RO own (w.setCell ⟨r, 3, none⟩ (.bool true)) (dieM m) r rb cap cs pg fu tx := h.dead true
  have x6 := h1.c6
  have x0 := h1.b0 hk
  have cc := cut_rany h1.drew hdt t
  obtain ⟨⟨u0, hu0⟩, ⟨u1, hu1⟩, huf⟩ := h1.pcell hk hl
  rw [show cut (dieM m) t = cut m t from rfl] at cc
  rw [show (dieM m).pages = m.pages from rfl] at x0
  rw [e6] at x6
  unfold putR
  generalize cut m t = ct2 at cc
  clear h1
  generalize (m.blk k).text.length = q at cn hl p0 p1 p2 p3 p4 p5 hv0 hv1 hu0 hu1 ⊢
  generalize m.pages = pp at c1 hpg hl p1 p2 p3 p5 d0 x0
  generalize m.data = dt at c2 hdt hs q1 q2
  generalize m.n = nn at c0 hk hk2 hn
  generalize pg k = g at d0 hv0 hv1 hvf x0 hu0 hu1 huf ⊢
  clear h ok ht hb hd hs hl hf e5 e6
  go_enter Try.func33, Try.ntmps33
  go_wp2_with fail
  refine ct.mono ?_
  rintro e w' ⟨rfl, rfl⟩
  go_wp2_with fail
  refine cn.mono ?_
  rintro e w' ⟨rfl, rfl⟩
  go_wp2_with fail
  generalize hW : w'.setCell ⟨r, 3, none⟩ (.bool true) = W1 at *
  replace hW := Lib.hid hW
  go_still_tail 13, (by kernel_rfl)
  still_call cc
  repeat still_step
  refine wpStill_nil ?_
  go_wp2_with fail
  go_ret
  exact ⟨rfl, by rw [← hW.out]⟩
set_option maxHeartbeats 1000000 in
theorem prog_do0 (h : RO own w m r rb cap cs pg fu tx) {K : Nat} (ok : Ok m K) (hd : m.dead = false) {k : Nat} (hk : k < m.n) (hl : (m.blk k).text.length < m.pages) (s : ByteArray) (hs : s.size ≤ m.data) (hb : (m.blk k).bad = false) (hf : m.fuse = none) (hfl : (m.blk k).fails = none) :
    Calls Try.prog 33 #[.pointer (some ⟨r, 0, none⟩), .int .i64 (k : Int), .int .i64 ((m.blk k).text.length : Int), .string s] w fun e w' => e = .returned (.int .i64 0) ∧ w' = putR w (pg k) (m.blk k).text.length s := by
  have ht : there m (k : Int) = true := by rw [there_nat]; simpa using hk
  have ct := there_rany h ok.n1 (k : Int)
  rw [ht] at ct
  have c1 := h.c1
  have c2 := h.c2
  have c3 := h.c3
  rw [hd] at c3
  have hpg := ok.p1
  have hdt := ok.d1
  have cn := next_rany h ok (k : Int)
  unfold next at_ at cn
  rw [ht, if_pos rfl, Int.toNat_natCast] at cn
  have c0 := h.c0
  have c4 := h.c4
  have d0 := h.b0 hk
  have d2 := h.b2 hk
  obtain ⟨⟨v0, hv0⟩, ⟨v1, hv1⟩, hvf⟩ := h.pcell hk hl
  have hk2 : (k : Int) < (m.n : Int) := by omega
  have hn := ok.n1
  have p0 : decide (((m.blk k).text.length : Int) < 0) = false := decide_eq_false (by omega)
  have p1 : decide ((m.pages : Int) ≤ ((m.blk k).text.length : Int)) = false := decide_eq_false (by omega)
  have p2 : decide (m.pages ≤ (m.blk k).text.length) = false := decide_eq_false (by omega)
  have p3 : ((m.blk k).text.length : Int) < (m.pages : Int) := by omega
  have p4 : ¬ (((m.blk k).text.length : Int) < 0) := by omega
  have p5 : ¬ ((m.pages : Int) ≤ ((m.blk k).text.length : Int)) := by omega
  have q1 : decide ((m.data : Int) < (s.size : Int)) = false := decide_eq_false (by omega)
  have q2 : decide (m.data < s.size) = false := decide_eq_false (by omega)
  rw [hb] at d2
  rw [hf] at c4
  simp only [Option.isSome_none] at c4
  have d3 := h.b3 hk
  rw [hfl] at d3
  simp only [Option.isSome_none] at d3
  unfold putR
  generalize (m.blk k).text.length = q at cn hl p0 p1 p2 p3 p4 p5 hv0 hv1 ⊢
  generalize m.pages = pp at c1 hpg hl p1 p2 p3 p5 d0
  generalize m.data = dt at c2 hdt hs q1 q2
  generalize m.n = nn at c0 hk hk2 hn
  generalize pg k = g at d0 hv0 hv1 hvf ⊢
  clear h ok ht hb hd hs hl hf hfl
  go_enter Try.func33, Try.ntmps33
  go_wp2_with fail
  refine ct.mono ?_
  rintro e w' ⟨rfl, rfl⟩
  go_wp2_with fail
  refine cn.mono ?_
  rintro e w' ⟨rfl, rfl⟩
  go_wp2_with fail
  go_ret
  exact ⟨rfl, rfl⟩
set_option maxHeartbeats 1000000 in
theorem prog_do1 (h : RO own w m r rb cap cs pg fu tx) {K : Nat} (ok : Ok m K) (hd : m.dead = false) {k : Nat} (hk : k < m.n) (hl : (m.blk k).text.length < m.pages) (s : ByteArray) (hs : s.size ≤ m.data) (hb : (m.blk k).bad = false) {n : Nat} {t : ByteArray} (hf : m.fuse = some (n + 1, t)) (hfl : (m.blk k).fails = none) :
    Calls Try.prog 33 #[.pointer (some ⟨r, 0, none⟩), .int .i64 (k : Int), .int .i64 ((m.blk k).text.length : Int), .string s] w fun e w' => e = .returned (.int .i64 0) ∧ w' = putR (w.setCell ⟨r, 5, none⟩ (.int .i64 (n : Int))) (pg k) (m.blk k).text.length s := by
  have ht : there m (k : Int) = true := by rw [there_nat]; simpa using hk
  have ct := there_rany h ok.n1 (k : Int)
  rw [ht] at ct
  have c1 := h.c1
  have c2 := h.c2
  have c3 := h.c3
  rw [hd] at c3
  have hpg := ok.p1
  have hdt := ok.d1
  have cn := next_rany h ok (k : Int)
  unfold next at_ at cn
  rw [ht, if_pos rfl, Int.toNat_natCast] at cn
  have c0 := h.c0
  have c4 := h.c4
  have d0 := h.b0 hk
  have d2 := h.b2 hk
  obtain ⟨⟨v0, hv0⟩, ⟨v1, hv1⟩, hvf⟩ := h.pcell hk hl
  have hk2 : (k : Int) < (m.n : Int) := by omega
  have hn := ok.n1
  have p0 : decide (((m.blk k).text.length : Int) < 0) = false := decide_eq_false (by omega)
  have p1 : decide ((m.pages : Int) ≤ ((m.blk k).text.length : Int)) = false := decide_eq_false (by omega)
  have p2 : decide (m.pages ≤ (m.blk k).text.length) = false := decide_eq_false (by omega)
  have p3 : ((m.blk k).text.length : Int) < (m.pages : Int) := by omega
  have p4 : ¬ (((m.blk k).text.length : Int) < 0) := by omega
  have p5 : ¬ ((m.pages : Int) ≤ ((m.blk k).text.length : Int)) := by omega
  have q1 : decide ((m.data : Int) < (s.size : Int)) = false := decide_eq_false (by omega)
  have q2 : decide (m.data < s.size) = false := decide_eq_false (by omega)
  rw [hb] at d2
  obtain ⟨e5, e6⟩ := h.f _ _ hf
  have c5 := h.c5
  rw [e5] at c5
  rw [hf] at c4
  simp only [Option.isSome_some] at c4
  have rf := h.rfroz
  have h1 := h.burn hf
  have x4 := h1.c4
  rw [show (burn m).fuse = some (n, t) by simp [burn, hf]] at x4
  simp only [Option.isSome_some] at x4
  have x0 := h1.b0 hk
  obtain ⟨⟨u0, hu0⟩, ⟨u1, hu1⟩, huf⟩ := h1.pcell hk hl
  rw [show (burn m).pages = m.pages from rfl] at x0
  have x3 := h1.b3 hk
  simp only [show (burn m).blk k = m.blk k from rfl] at x3
  rw [hfl] at x3
  simp only [Option.isSome_none] at x3
  have y1 : (((n + 1 : Nat) : Int) == 0) = false := by simp; omega
  have y2 : ((n + 1 : Nat) : Int) - 1 = (n : Int) := by omega
  have y3 : ((n + 1 : Nat) : Int) ≤ 1073741824 := by have := ok.f _ _ hf; omega
  have y4 : (0 : Int) ≤ ((n + 1 : Nat) : Int) := by omega
  clear h1
  generalize ((n + 1 : Nat) : Int) = n1 at c5 y1 y2 y3 y4
  unfold putR
  generalize (m.blk k).text.length = q at cn hl p0 p1 p2 p3 p4 p5 hv0 hv1 hu0 hu1 ⊢
  generalize m.pages = pp at c1 hpg hl p1 p2 p3 p5 d0 x0
  generalize m.data = dt at c2 hdt hs q1 q2
  generalize m.n = nn at c0 hk hk2 hn
  generalize pg k = g at d0 hv0 hv1 hvf x0 hu0 hu1 huf ⊢
  clear h ok ht hb hd hs hl hf hfl e5 e6
  go_enter Try.func33, Try.ntmps33
  go_wp2_with fail
  refine ct.mono ?_
  rintro e w' ⟨rfl, rfl⟩
  go_wp2_with fail
  refine cn.mono ?_
  rintro e w' ⟨rfl, rfl⟩
  go_wp2_with fail
  go_ret
  exact ⟨rfl, rfl⟩
set_option maxHeartbeats 1000000 in
theorem prog_fails0 (h : RO own w m r rb cap cs pg fu tx) {K : Nat} (ok : Ok m K) (hd : m.dead = false) {k : Nat} (hk : k < m.n) (hl : (m.blk k).text.length < m.pages) (s : ByteArray) (hs : s.size ≤ m.data) (hb : (m.blk k).bad = false) (hf : m.fuse = none) {u : ByteArray} (hfl : (m.blk k).fails = some u) :
    Calls Try.prog 33 #[.pointer (some ⟨r, 0, none⟩), .int .i64 (k : Int), .int .i64 ((m.blk k).text.length : Int), .string s] w fun e w' => e = .returned (.int .i64 15) ∧ w' = (fellR (putR w (pg k) (m.blk k).text.length (cut m u)) rb k).drew := by
  have ht : there m (k : Int) = true := by rw [there_nat]; simpa using hk
  have ct := there_rany h ok.n1 (k : Int)
  rw [ht] at ct
  have c1 := h.c1
  have c2 := h.c2
  have c3 := h.c3
  rw [hd] at c3
  have hpg := ok.p1
  have hdt := ok.d1
  have cn := next_rany h ok (k : Int)
  unfold next at_ at cn
  rw [ht, if_pos rfl, Int.toNat_natCast] at cn
  have c0 := h.c0
  have c4 := h.c4
  have d0 := h.b0 hk
  have d2 := h.b2 hk
  obtain ⟨⟨v0, hv0⟩, ⟨v1, hv1⟩, hvf⟩ := h.pcell hk hl
  have hk2 : (k : Int) < (m.n : Int) := by omega
  have hn := ok.n1
  have p0 : decide (((m.blk k).text.length : Int) < 0) = false := decide_eq_false (by omega)
  have p1 : decide ((m.pages : Int) ≤ ((m.blk k).text.length : Int)) = false := decide_eq_false (by omega)
  have p2 : decide (m.pages ≤ (m.blk k).text.length) = false := decide_eq_false (by omega)
  have p3 : ((m.blk k).text.length : Int) < (m.pages : Int) := by omega
  have p4 : ¬ (((m.blk k).text.length : Int) < 0) := by omega
  have p5 : ¬ ((m.pages : Int) ≤ ((m.blk k).text.length : Int)) := by omega
  have q1 : decide ((m.data : Int) < (s.size : Int)) = false := decide_eq_false (by omega)
  have q2 : decide (m.data < s.size) = false := decide_eq_false (by omega)
  rw [hb] at d2
  rw [hf] at c4
  simp only [Option.isSome_none] at c4
  have d3 := h.b3 hk
  rw [hfl] at d3
  simp only [Option.isSome_some] at d3
  have d2b := hb
  clear d2b
  have f4 := h.b4 hk (t := u) (by first | exact hfl | (show (m.blk k).fails = some u; exact hfl))
  have cc := cut_rany h.drew hdt u
  have h3 := h.put hk hl (cut m u)
  have z2 := h3.drew.b2 hk
  have z3 := h3.b3x hk
  have zf := h3.drew.bfroz
  have zg := h3.b3y (k := k)
  have zs : ∀ x : Blk, (setB m k x).blk k = x := fun x => if_pos rfl
  rw [zs] at z2 z3
  unfold putR at z2 z3 zf zg
  unfold putR fellR
  clear h3 zs
  generalize (m.blk k).bad = vb at z2
  generalize (m.blk k).fails.isSome = vf at z3
  generalize cut m u = cu at cc z2 z3 zf zg
  generalize (m.blk k).text.length = q at cn hl p0 p1 p2 p3 p4 p5 hv0 hv1 z2 z3 zf zg ⊢
  generalize m.pages = pp at c1 hpg hl p1 p2 p3 p5 d0
  generalize m.data = dt at c2 hdt hs q1 q2
  generalize m.n = nn at c0 hk hk2 hn
  generalize pg k = g at d0 hv0 hv1 hvf z2 z3 zf zg ⊢
  clear h ok ht hb hd hs hl hf hfl
  go_enter Try.func33, Try.ntmps33
  go_wp2_with fail
  refine ct.mono ?_
  rintro e w' ⟨rfl, rfl⟩
  go_wp2_with fail
  refine cn.mono ?_
  rintro e w' ⟨rfl, rfl⟩
  go_wp2_with fail
  go_still_tail 13, (by kernel_rfl)
  still_call cc
  repeat still_step
  refine wpStill_nil ?_
  go_wp2_with fail
  go_ret
  exact ⟨rfl, rfl⟩
set_option maxHeartbeats 1000000 in
theorem prog_fails1 (h : RO own w m r rb cap cs pg fu tx) {K : Nat} (ok : Ok m K) (hd : m.dead = false) {k : Nat} (hk : k < m.n) (hl : (m.blk k).text.length < m.pages) (s : ByteArray) (hs : s.size ≤ m.data) (hb : (m.blk k).bad = false) {n : Nat} {t : ByteArray} (hf : m.fuse = some (n + 1, t)) {u : ByteArray} (hfl : (m.blk k).fails = some u) :
    Calls Try.prog 33 #[.pointer (some ⟨r, 0, none⟩), .int .i64 (k : Int), .int .i64 ((m.blk k).text.length : Int), .string s] w fun e w' => e = .returned (.int .i64 15) ∧ w' = (fellR (putR (w.setCell ⟨r, 5, none⟩ (.int .i64 (n : Int))) (pg k) (m.blk k).text.length (cut m u)) rb k).drew := by
  have ht : there m (k : Int) = true := by rw [there_nat]; simpa using hk
  have ct := there_rany h ok.n1 (k : Int)
  rw [ht] at ct
  have c1 := h.c1
  have c2 := h.c2
  have c3 := h.c3
  rw [hd] at c3
  have hpg := ok.p1
  have hdt := ok.d1
  have cn := next_rany h ok (k : Int)
  unfold next at_ at cn
  rw [ht, if_pos rfl, Int.toNat_natCast] at cn
  have c0 := h.c0
  have c4 := h.c4
  have d0 := h.b0 hk
  have d2 := h.b2 hk
  obtain ⟨⟨v0, hv0⟩, ⟨v1, hv1⟩, hvf⟩ := h.pcell hk hl
  have hk2 : (k : Int) < (m.n : Int) := by omega
  have hn := ok.n1
  have p0 : decide (((m.blk k).text.length : Int) < 0) = false := decide_eq_false (by omega)
  have p1 : decide ((m.pages : Int) ≤ ((m.blk k).text.length : Int)) = false := decide_eq_false (by omega)
  have p2 : decide (m.pages ≤ (m.blk k).text.length) = false := decide_eq_false (by omega)
  have p3 : ((m.blk k).text.length : Int) < (m.pages : Int) := by omega
  have p4 : ¬ (((m.blk k).text.length : Int) < 0) := by omega
  have p5 : ¬ ((m.pages : Int) ≤ ((m.blk k).text.length : Int)) := by omega
  have q1 : decide ((m.data : Int) < (s.size : Int)) = false := decide_eq_false (by omega)
  have q2 : decide (m.data < s.size) = false := decide_eq_false (by omega)
  rw [hb] at d2
  obtain ⟨e5, e6⟩ := h.f _ _ hf
  have c5 := h.c5
  rw [e5] at c5
  rw [hf] at c4
  simp only [Option.isSome_some] at c4
  have rf := h.rfroz
  have h1 := h.burn hf
  have x4 := h1.c4
  rw [show (burn m).fuse = some (n, t) by simp [burn, hf]] at x4
  simp only [Option.isSome_some] at x4
  have x0 := h1.b0 hk
  obtain ⟨⟨u0, hu0⟩, ⟨u1, hu1⟩, huf⟩ := h1.pcell hk hl
  rw [show (burn m).pages = m.pages from rfl] at x0
  have x3 := h1.b3 hk
  simp only [show (burn m).blk k = m.blk k from rfl] at x3
  rw [hfl] at x3
  simp only [Option.isSome_some] at x3
  have y1 : (((n + 1 : Nat) : Int) == 0) = false := by simp; omega
  have y2 : ((n + 1 : Nat) : Int) - 1 = (n : Int) := by omega
  have y3 : ((n + 1 : Nat) : Int) ≤ 1073741824 := by have := ok.f _ _ hf; omega
  have y4 : (0 : Int) ≤ ((n + 1 : Nat) : Int) := by omega
  have f4 := h1.b4 hk (t := u) (by first | exact hfl | (show (m.blk k).fails = some u; exact hfl))
  have cc := cut_rany h1.drew hdt u
  rw [show cut (burn m) u = cut m u from rfl] at cc
  have h3 := h1.put hk hl (cut m u)
  have z2 := h3.drew.b2 hk
  have z3 := h3.b3x hk
  have zf := h3.drew.bfroz
  have zg := h3.b3y (k := k)
  have zs : ∀ x : Blk, (setB (burn m) k x).blk k = x := fun x => if_pos rfl
  rw [zs] at z2 z3
  simp only [show (burn m).blk k = m.blk k from rfl] at z2 z3 zf zg
  unfold putR at z2 z3 zf zg
  unfold putR fellR
  clear h3 zs
  generalize (m.blk k).bad = vb at z2
  generalize (m.blk k).fails.isSome = vf at z3
  generalize cut m u = cu at cc z2 z3 zf zg
  clear h1
  generalize ((n + 1 : Nat) : Int) = n1 at c5 y1 y2 y3 y4
  generalize (m.blk k).text.length = q at cn hl p0 p1 p2 p3 p4 p5 hv0 hv1 z2 z3 zf zg hu0 hu1 ⊢
  generalize m.pages = pp at c1 hpg hl p1 p2 p3 p5 d0 x0
  generalize m.data = dt at c2 hdt hs q1 q2
  generalize m.n = nn at c0 hk hk2 hn
  generalize pg k = g at d0 hv0 hv1 hvf x0 hu0 hu1 huf z2 z3 zf zg ⊢
  clear h ok ht hb hd hs hl hf hfl e5 e6
  go_enter Try.func33, Try.ntmps33
  go_wp2_with fail
  refine ct.mono ?_
  rintro e w' ⟨rfl, rfl⟩
  go_wp2_with fail
  refine cn.mono ?_
  rintro e w' ⟨rfl, rfl⟩
  go_wp2_with fail
  generalize hW : w'.setCell ⟨r, 5, none⟩ (.int .i64 (n : Int)) = W1 at *
  replace hW := Lib.hid hW
  go_still_tail 13, (by kernel_rfl)
  still_call cc
  repeat still_step
  refine wpStill_nil ?_
  go_wp2_with fail
  go_ret
  exact ⟨rfl, by rw [← hW.out]⟩
end
end Go.Proofs.Ytfjnjhlmmdeilaa.RefA
