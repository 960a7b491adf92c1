/- The walk of the reference's Erase, case by case. -/
import Derived.Test.YtfjnjhlmmdeilaaRefP
set_option linter.unusedVariables false
namespace Go.Proofs.Ytfjnjhlmmdeilaa.RefA
open Go.RowKit Go.Proofs.Ytfjnjhlmmdeilaa.ChipM Go.Proofs.Ytfjnjhlmmdeilaa.ChipA

section
variable {own : Nat → Prop} {w w' : World} {m : Chp} {r rb cap : Nat} {cs : Array Value} {pg : Nat → Nat} {fu : Int} {tx : ByteArray}
theorem RO.b1x (h : RO own w m r rb cap cs pg fu tx) {k : Nat} (hk : k < m.n) (v : Value) : (w.setCell ⟨rb, k * 5, none⟩ v).cell? ⟨rb, k * 5 + 1, none⟩ = some (.int .i64 (m.blk k).worn) := by
  rw [cell_of_row _ _ _ _ _ _ (heap_setCell_same _ _ _ _ _ _ h.hb), Array.getElem?_setIfInBounds, if_neg (by omega)]
  exact (h.bs k hk).wo
theorem RO.b1y (h : RO own w m r rb cap cs pg fu tx) {k : Nat} (v : Value) (o : Nat) : (w.setCell ⟨rb, k * 5, none⟩ v).frozen? ⟨rb, o, none⟩ = false :=
  frozen_of_row _ _ _ _ _ (heap_setCell_same _ _ _ _ _ _ h.hb)
theorem RO.b3z (h : RO own w m r rb cap cs pg fu tx) {k : Nat} (hk : k < m.n) : (w.setCell ⟨rb, k * 5 + 2, none⟩ (.bool true)).cell? ⟨rb, k * 5 + 3, none⟩ = some (.bool (m.blk k).fails.isSome) := by
  rw [cell_of_row _ _ _ _ _ _ (heap_setCell_same _ _ _ _ _ _ h.hb), Array.getElem?_setIfInBounds, if_neg (by omega)]
  exact (h.bs k hk).f
theorem RO.b3w (h : RO own w m r rb cap cs pg fu tx) {k : Nat} (o : Nat) : (w.setCell ⟨rb, k * 5 + 2, none⟩ (.bool true)).frozen? ⟨rb, o, none⟩ = false :=
  frozen_of_row _ _ _ _ _ (heap_setCell_same _ _ _ _ _ _ h.hb)
theorem erase_rdead (h : RO own w m r rb cap cs pg fu tx) (hd : m.dead = true) (b : Int) :
    Calls Try.prog 34 #[.pointer (some ⟨r, 0, none⟩), .int .i64 b] w fun e w' => e = .returned (.int .i64 14) ∧ w' = w := by
  have c3 := h.c3
  rw [hd] at c3
  clear h hd
  go_enter Try.func34, Try.ntmps34
  go_wp2_with fail
  go_ret
  exact ⟨rfl, rfl⟩
theorem erase_rnone (h : RO own w m r rb cap cs pg fu tx) {K : Nat} (ok : Ok m K) (hd : m.dead = false) {b : Int} (hb : there m b = false) :
    Calls Try.prog 34 #[.pointer (some ⟨r, 0, none⟩), .int .i64 b] w fun e w' => e = .returned (.int .i64 1) ∧ w' = w := by
  have c3 := h.c3
  rw [hd] at c3
  have ct := there_rany h ok.n1 b
  rw [hb] at ct
  clear h hd hb ok
  go_enter Try.func34, Try.ntmps34
  go_wp2_with fail
  refine ct.mono ?_
  rintro e w' ⟨rfl, rfl⟩
  go_wp2_with fail
  go_ret
  exact ⟨rfl, rfl⟩
set_option maxHeartbeats 1000000 in
theorem erase_rbad (h : RO own w m r rb cap cs pg fu tx) {K : Nat} (ok : Ok m K) (hd : m.dead = false) {k : Nat} (hk : k < m.n) (hwk : (m.blk k).worn < 9223372036854775807) (hb : (m.blk k).bad = true) :
    Calls Try.prog 34 #[.pointer (some ⟨r, 0, none⟩), .int .i64 (k : Int)] w fun e w' => e = .returned (.int .i64 15) ∧ w' = w := by
  have ht : there m (k : Int) = true := by rw [there_nat]; simpa using hk
  have ct := there_rany h ok.n1 (k : Int)
  rw [ht] at ct
  have c0 := h.c0
  have c1 := h.c1
  have c3 := h.c3
  rw [hd] at c3
  have c4 := h.c4
  have d2 := h.b2 hk
  rw [hb] at d2
  have hk2 : (k : Int) < (m.n : Int) := by omega
  have hn := ok.n1
  have hpg := ok.p1
  generalize m.fuse.isSome = fs at c4
  generalize m.pages = pp at c1 hpg
  generalize m.n = nn at c0 hk hk2 hn
  clear h ok ht hb hd
  go_enter Try.func34, Try.ntmps34
  go_wp2_with fail
  refine ct.mono ?_
  rintro e w' ⟨rfl, rfl⟩
  go_wp2_with fail
  go_ret
  exact ⟨rfl, rfl⟩
set_option maxHeartbeats 1000000 in
theorem erase_rdead0 (h : RO own w m r rb cap cs pg fu tx) {K : Nat} (ok : Ok m K) (hd : m.dead = false) {k : Nat} (hk : k < m.n) (hwk : (m.blk k).worn < 9223372036854775807) (hb : (m.blk k).bad = false) {t : ByteArray} (hf : m.fuse = some (0, t)) (hte : t.toList.isEmpty = true) :
    Calls Try.prog 34 #[.pointer (some ⟨r, 0, none⟩), .int .i64 (k : Int)] w fun e w' => e = .returned (.int .i64 14) ∧ w' = w.setCell ⟨r, 3, none⟩ (.bool true) := by
  have ht : there m (k : Int) = true := by rw [there_nat]; simpa using hk
  have ct := there_rany h ok.n1 (k : Int)
  rw [ht] at ct
  have c0 := h.c0
  have c1 := h.c1
  have c3 := h.c3
  rw [hd] at c3
  have c4 := h.c4
  have d2 := h.b2 hk
  rw [hb] at d2
  have hk2 : (k : Int) < (m.n : Int) := by omega
  have hn := ok.n1
  have hpg := ok.p1
  obtain ⟨e5, e6⟩ := h.f _ _ hf
  have c5 := h.c5
  have c6 := h.c6
  rw [e5] at c5
  rw [e6] at c6
  rw [hf] at c4
  simp only [Option.isSome_some] at c4
  have rf := h.rfroz
  have t1 : t.toList = [] := by simpa using hte
  have t2 : (!t.toList.isEmpty) = false := by rw [hte]; rfl
  have h1 : RO own (w.setCell ⟨r, 3, none⟩ (.bool true)) (dieM m) r rb cap cs pg fu tx := h.dead true
  have x6 := h1.c6
  rw [e6] at x6
  clear h1
  generalize m.pages = pp at c1 hpg
  generalize m.n = nn at c0 hk hk2 hn
  clear h ok ht hb hd hf e5 e6
  go_enter Try.func34, Try.ntmps34
  go_wp2_with fail
  refine ct.mono ?_
  rintro e w' ⟨rfl, rfl⟩
  go_wp2_with fail
  go_ret
  exact ⟨rfl, rfl⟩
set_option maxHeartbeats 1000000 in
theorem erase_rdies (h : RO own w m r rb cap cs pg fu tx) {K : Nat} (ok : Ok m K) (hd : m.dead = false) {k : Nat} (hk : k < m.n) (hwk : (m.blk k).worn < 9223372036854775807) (hb : (m.blk k).bad = false) {t : ByteArray} (hf : m.fuse = some (0, t)) (hte : t.toList.isEmpty = false) :
    Calls Try.prog 34 #[.pointer (some ⟨r, 0, none⟩), .int .i64 (k : Int)] w fun e w' => e = .returned (.int .i64 14) ∧ w' = blankR (w.setCell ⟨r, 3, none⟩ (.bool true)) rb k m.pages (m.blk k).worn := by
  have ht : there m (k : Int) = true := by rw [there_nat]; simpa using hk
  have ct := there_rany h ok.n1 (k : Int)
  rw [ht] at ct
  have c0 := h.c0
  have c1 := h.c1
  have c3 := h.c3
  rw [hd] at c3
  have c4 := h.c4
  have d2 := h.b2 hk
  rw [hb] at d2
  have hk2 : (k : Int) < (m.n : Int) := by omega
  have hn := ok.n1
  have hpg := ok.p1
  obtain ⟨e5, e6⟩ := h.f _ _ hf
  have c5 := h.c5
  have c6 := h.c6
  rw [e5] at c5
  rw [e6] at c6
  rw [hf] at c4
  simp only [Option.isSome_some] at c4
  have rf := h.rfroz
  have t1 : ¬ t.toList = [] := by simpa using hte
  have t2 : (!t.toList.isEmpty) = true := by rw [hte]; rfl
  have h1 : RO own (w.setCell ⟨r, 3, none⟩ (.bool true)) (dieM m) r rb cap cs pg fu tx := h.dead true
  have x6 := h1.c6
  rw [e6] at x6
  have x1 := h1.c1
  rw [show (dieM m).pages = m.pages from rfl] at x1
  have mk := madeP m.pages hpg
  have g1 := h1.alloc (.cells (pageN m.pages) 76)
  have y0 := g1.b0 hk
  have y1 := g1.b1x hk
  have yf := g1.bfroz
  have yg := g1.b1y (k := k)
  rw [show (dieM m).pages = m.pages from rfl] at y0
  simp only [show (dieM m).blk k = m.blk k from rfl] at y1
  unfold blankR
  generalize (m.blk k).worn = wk at y1 hwk ⊢
  clear g1
  rw [setCell_size]
  clear h1
  generalize m.pages = pp at c1 hpg x1 mk y0 y1 yf yg ⊢
  generalize m.n = nn at c0 hk hk2 hn
  clear h ok ht hb hd hf e5 e6
  go_enter Try.func34, Try.ntmps34
  go_wp2_with fail
  refine ct.mono ?_
  rintro e w' ⟨rfl, rfl⟩
  go_wp2_with fail
  go_ret
  exact ⟨rfl, rfl⟩
set_option maxHeartbeats 1000000 in
theorem erase_rdo0 (h : RO own w m r rb cap cs pg fu tx) {K : Nat} (ok : Ok m K) (hd : m.dead = false) {k : Nat} (hk : k < m.n) (hwk : (m.blk k).worn < 9223372036854775807) (hb : (m.blk k).bad = false) (hf : m.fuse = none) (hfl : (m.blk k).fails = none) :
    Calls Try.prog 34 #[.pointer (some ⟨r, 0, none⟩), .int .i64 (k : Int)] w fun e w' => e = .returned (.int .i64 0) ∧ w' = blankR w rb k m.pages (m.blk k).worn := by
  have ht : there m (k : Int) = true := by rw [there_nat]; simpa using hk
  have ct := there_rany h ok.n1 (k : Int)
  rw [ht] at ct
  have c0 := h.c0
  have c1 := h.c1
  have c3 := h.c3
  rw [hd] at c3
  have c4 := h.c4
  have d2 := h.b2 hk
  rw [hb] at d2
  have hk2 : (k : Int) < (m.n : Int) := by omega
  have hn := ok.n1
  have hpg := ok.p1
  rw [hf] at c4
  simp only [Option.isSome_none] at c4
  have d3 := h.b3 hk
  rw [hfl] at d3
  simp only [Option.isSome_none] at d3
  have mk := madeP m.pages hpg
  have g1 := h.alloc (.cells (pageN m.pages) 76)
  have y0 := g1.b0 hk
  have y1 := g1.b1x hk
  have yf := g1.bfroz
  have yg := g1.b1y (k := k)
  unfold blankR
  generalize (m.blk k).worn = wk at y1 hwk ⊢
  clear g1
  generalize m.pages = pp at c1 hpg mk y0 y1 yf yg ⊢
  generalize m.n = nn at c0 hk hk2 hn
  clear h ok ht hb hd hf hfl
  go_enter Try.func34, Try.ntmps34
  go_wp2_with fail
  refine ct.mono ?_
  rintro e w' ⟨rfl, rfl⟩
  go_wp2_with fail
  go_ret
  exact ⟨rfl, rfl⟩
set_option maxHeartbeats 1000000 in
theorem erase_rdo1 (h : RO own w m r rb cap cs pg fu tx) {K : Nat} (ok : Ok m K) (hd : m.dead = false) {k : Nat} (hk : k < m.n) (hwk : (m.blk k).worn < 9223372036854775807) (hb : (m.blk k).bad = false) {n : Nat} {t : ByteArray} (hf : m.fuse = some (n + 1, t)) (hfl : (m.blk k).fails = none) :
    Calls Try.prog 34 #[.pointer (some ⟨r, 0, none⟩), .int .i64 (k : Int)] w fun e w' => e = .returned (.int .i64 0) ∧ w' = blankR (w.setCell ⟨r, 5, none⟩ (.int .i64 (n : Int))) rb k m.pages (m.blk k).worn := by
  have ht : there m (k : Int) = true := by rw [there_nat]; simpa using hk
  have ct := there_rany h ok.n1 (k : Int)
  rw [ht] at ct
  have c0 := h.c0
  have c1 := h.c1
  have c3 := h.c3
  rw [hd] at c3
  have c4 := h.c4
  have d2 := h.b2 hk
  rw [hb] at d2
  have hk2 : (k : Int) < (m.n : Int) := by omega
  have hn := ok.n1
  have hpg := ok.p1
  obtain ⟨e5, e6⟩ := h.f _ _ hf
  have c5 := h.c5
  rw [e5] at c5
  rw [hf] at c4
  simp only [Option.isSome_some] at c4
  have rf := h.rfroz
  have h1 := h.burn hf
  have x1 := h1.c1
  rw [show (burn m).pages = m.pages from rfl] at x1
  have x3 := h1.b3 hk
  simp only [show (burn m).blk k = m.blk k from rfl] at x3
  rw [hfl] at x3
  simp only [Option.isSome_none] at x3
  have z1 : (((n + 1 : Nat) : Int) == 0) = false := by simp; omega
  have z2 : ((n + 1 : Nat) : Int) - 1 = (n : Int) := by omega
  have z3 : ((n + 1 : Nat) : Int) ≤ 1073741824 := by have := ok.f _ _ hf; omega
  have z4 : (0 : Int) ≤ ((n + 1 : Nat) : Int) := by omega
  have mk := madeP m.pages hpg
  have g1 := h1.alloc (.cells (pageN m.pages) 76)
  have y0 := g1.b0 hk
  have y1 := g1.b1x hk
  have yf := g1.bfroz
  have yg := g1.b1y (k := k)
  rw [show (burn m).pages = m.pages from rfl] at y0
  simp only [show (burn m).blk k = m.blk k from rfl] at y1
  unfold blankR
  generalize (m.blk k).worn = wk at y1 hwk ⊢
  clear g1
  rw [setCell_size]
  clear h1
  generalize ((n + 1 : Nat) : Int) = n1 at c5 z1 z2 z3 z4
  generalize m.pages = pp at c1 hpg x1 mk y0 y1 yf yg ⊢
  generalize m.n = nn at c0 hk hk2 hn
  clear h ok ht hb hd hf hfl e5 e6
  go_enter Try.func34, Try.ntmps34
  go_wp2_with fail
  refine ct.mono ?_
  rintro e w' ⟨rfl, rfl⟩
  go_wp2_with fail
  go_ret
  exact ⟨rfl, rfl⟩
set_option maxHeartbeats 1000000 in
theorem erase_rfails0 (h : RO own w m r rb cap cs pg fu tx) {K : Nat} (ok : Ok m K) (hd : m.dead = false) {k : Nat} (hk : k < m.n) (hwk : (m.blk k).worn < 9223372036854775807) (hb : (m.blk k).bad = false) (hf : m.fuse = none) {u : ByteArray} (hfl : (m.blk k).fails = some u) :
    Calls Try.prog 34 #[.pointer (some ⟨r, 0, none⟩), .int .i64 (k : Int)] w fun e w' => e = .returned (.int .i64 15) ∧ w' = fellR w rb k := by
  have ht : there m (k : Int) = true := by rw [there_nat]; simpa using hk
  have ct := there_rany h ok.n1 (k : Int)
  rw [ht] at ct
  have c0 := h.c0
  have c1 := h.c1
  have c3 := h.c3
  rw [hd] at c3
  have c4 := h.c4
  have d2 := h.b2 hk
  rw [hb] at d2
  have hk2 : (k : Int) < (m.n : Int) := by omega
  have hn := ok.n1
  have hpg := ok.p1
  rw [hf] at c4
  simp only [Option.isSome_none] at c4
  have d3 := h.b3 hk
  rw [hfl] at d3
  simp only [Option.isSome_some] at d3
  have y2 := h.b2 hk
  have y3 := h.b3z hk
  have yf := h.bfroz
  have yg := h.b3w (k := k)
  rw [hfl] at y3
  rw [hb] at y2
  unfold fellR
  generalize m.pages = pp at c1 hpg
  generalize m.n = nn at c0 hk hk2 hn
  clear h ok ht hb hd hf hfl
  go_enter Try.func34, Try.ntmps34
  go_wp2_with fail
  refine ct.mono ?_
  rintro e w' ⟨rfl, rfl⟩
  go_wp2_with fail
  go_ret
  exact ⟨rfl, rfl⟩
set_option maxHeartbeats 1000000 in
theorem erase_rfails1 (h : RO own w m r rb cap cs pg fu tx) {K : Nat} (ok : Ok m K) (hd : m.dead = false) {k : Nat} (hk : k < m.n) (hwk : (m.blk k).worn < 9223372036854775807) (hb : (m.blk k).bad = false) {n : Nat} {t : ByteArray} (hf : m.fuse = some (n + 1, t)) {u : ByteArray} (hfl : (m.blk k).fails = some u) :
    Calls Try.prog 34 #[.pointer (some ⟨r, 0, none⟩), .int .i64 (k : Int)] w fun e w' => e = .returned (.int .i64 15) ∧ w' = fellR (w.setCell ⟨r, 5, none⟩ (.int .i64 (n : Int))) rb k := by
  have ht : there m (k : Int) = true := by rw [there_nat]; simpa using hk
  have ct := there_rany h ok.n1 (k : Int)
  rw [ht] at ct
  have c0 := h.c0
  have c1 := h.c1
  have c3 := h.c3
  rw [hd] at c3
  have c4 := h.c4
  have d2 := h.b2 hk
  rw [hb] at d2
  have hk2 : (k : Int) < (m.n : Int) := by omega
  have hn := ok.n1
  have hpg := ok.p1
  obtain ⟨e5, e6⟩ := h.f _ _ hf
  have c5 := h.c5
  rw [e5] at c5
  rw [hf] at c4
  simp only [Option.isSome_some] at c4
  have rf := h.rfroz
  have h1 := h.burn hf
  have x1 := h1.c1
  rw [show (burn m).pages = m.pages from rfl] at x1
  have x3 := h1.b3 hk
  simp only [show (burn m).blk k = m.blk k from rfl] at x3
  rw [hfl] at x3
  simp only [Option.isSome_some] at x3
  have z1 : (((n + 1 : Nat) : Int) == 0) = false := by simp; omega
  have z2 : ((n + 1 : Nat) : Int) - 1 = (n : Int) := by omega
  have z3 : ((n + 1 : Nat) : Int) ≤ 1073741824 := by have := ok.f _ _ hf; omega
  have z4 : (0 : Int) ≤ ((n + 1 : Nat) : Int) := by omega
  have y2 := h1.b2 hk
  have y3 := h1.b3z hk
  have yf := h1.bfroz
  have yg := h1.b3w (k := k)
  simp only [show (burn m).blk k = m.blk k from rfl] at y2 y3
  rw [hfl] at y3
  rw [hb] at y2
  unfold fellR
  clear h1
  generalize ((n + 1 : Nat) : Int) = n1 at c5 z1 z2 z3 z4
  generalize m.pages = pp at c1 hpg x1
  generalize m.n = nn at c0 hk hk2 hn
  clear h ok ht hb hd hf hfl e5 e6
  go_enter Try.func34, Try.ntmps34
  go_wp2_with fail
  refine ct.mono ?_
  rintro e w' ⟨rfl, rfl⟩
  go_wp2_with fail
  go_ret
  exact ⟨rfl, rfl⟩
end
end Go.Proofs.Ytfjnjhlmmdeilaa.RefA
