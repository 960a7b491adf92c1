/- The reference's chip in memory; what only reads it. -/
import Derived.Test.YtfjnjhlmmdeilaaChipC
set_option linter.unusedVariables false
namespace Go.Proofs.Ytfjnjhlmmdeilaa.RefA
open Go.RowKit Go.Proofs.Ytfjnjhlmmdeilaa.ChipM Go.Proofs.Ytfjnjhlmmdeilaa.ChipA

/-- A block's cells, and its pages'. -/
structure RB (w : World) (cs : Array Value) (o : Nat) (x : Blk) (pages g : Nat) : Prop where
  s : cs[o]? = some (.slice (some ⟨g, 0, none⟩) pages pages)
  wo : cs[o + 1]? = some (.int .i64 x.worn)
  b : cs[o + 2]? = some (.bool x.bad)
  f : cs[o + 3]? = some (.bool x.fails.isSome)
  t : ∃ u, cs[o + 4]? = some (.string u) ∧ ∀ v, x.fails = some v → u = v
  p : ∃ ps : Array Value, w.heap[g]? = some (.cells ps 76 (0, 0)) ∧ ∀ p, p < pages → ps[p * 2]? = some (.bool (decide (p < x.text.length))) ∧ ∃ u, ps[p * 2 + 1]? = some (.string u) ∧ (p < x.text.length → u = x.text.getD p ⟨#[]⟩)
structure RO (own : Nat → Prop) (w : World) (m : Chp) (r rb cap : Nat) (cs : Array Value) (pg : Nat → Nat) (fu : Int) (tx : ByteArray) : Prop where
  oc : own r
  ob : own rb
  og : ∀ b, b < m.n → own (pg b)
  lt : ∀ k, own k → k < w.heap.size
  ne : r ≠ rb
  gr : ∀ b, b < m.n → pg b ≠ r ∧ pg b ≠ rb
  inj : ∀ b b', b < m.n → b' < m.n → pg b = pg b' → b = b'
  hr : w.heap[r]? = some (.cells #[.slice (some ⟨rb, 0, none⟩) m.n cap, .int .i64 m.pages, .int .i64 m.data, .bool m.dead, .bool m.fuse.isSome, .int .i64 fu, .string tx] 70 (0, 0))
  hb : w.heap[rb]? = some (.cells cs 73 (0, 0))
  bs : ∀ b, b < m.n → RB w cs (b * 5) (m.blk b) m.pages (pg b)
  f : ∀ k t, m.fuse = some (k, t) → fu = (k : Int) ∧ tx = t
/-- The reference's chip at block r is as m says. -/
def RefAt (own : Nat → Prop) (w : World) (r : Nat) (m : Chp) : Prop := ∃ rb cap cs pg fu tx, RO own w m r rb cap cs pg fu tx

section
variable {own : Nat → Prop} {w w' : World} {m : Chp} {r rb cap : Nat} {cs : Array Value} {pg : Nat → Nat} {fu : Int} {tx : ByteArray}
theorem RO.c0 (h : RO own w m r rb cap cs pg fu tx) : w.cell? ⟨r, 0, none⟩ = some (.slice (some ⟨rb, 0, none⟩) m.n cap) := by rw [cell_of_row _ _ _ _ _ _ h.hr]; rfl
theorem RO.c1 (h : RO own w m r rb cap cs pg fu tx) : w.cell? ⟨r, 1, none⟩ = some (.int .i64 m.pages) := by rw [cell_of_row _ _ _ _ _ _ h.hr]; rfl
theorem RO.c2 (h : RO own w m r rb cap cs pg fu tx) : w.cell? ⟨r, 2, none⟩ = some (.int .i64 m.data) := by rw [cell_of_row _ _ _ _ _ _ h.hr]; rfl
theorem RO.c3 (h : RO own w m r rb cap cs pg fu tx) : w.cell? ⟨r, 3, none⟩ = some (.bool m.dead) := by rw [cell_of_row _ _ _ _ _ _ h.hr]; rfl
theorem RO.c4 (h : RO own w m r rb cap cs pg fu tx) : w.cell? ⟨r, 4, none⟩ = some (.bool m.fuse.isSome) := by rw [cell_of_row _ _ _ _ _ _ h.hr]; rfl
theorem RO.c5 (h : RO own w m r rb cap cs pg fu tx) : w.cell? ⟨r, 5, none⟩ = some (.int .i64 fu) := by rw [cell_of_row _ _ _ _ _ _ h.hr]; rfl
theorem RO.c6 (h : RO own w m r rb cap cs pg fu tx) : w.cell? ⟨r, 6, none⟩ = some (.string tx) := by rw [cell_of_row _ _ _ _ _ _ h.hr]; rfl
theorem RO.b0 (h : RO own w m r rb cap cs pg fu tx) {k : Nat} (hk : k < m.n) : w.cell? ⟨rb, k * 5, none⟩ = some (.slice (some ⟨pg k, 0, none⟩) m.pages m.pages) := by rw [cell_of_row _ _ _ _ _ _ h.hb]; exact (h.bs k hk).s
theorem RO.b1 (h : RO own w m r rb cap cs pg fu tx) {k : Nat} (hk : k < m.n) : w.cell? ⟨rb, k * 5 + 1, none⟩ = some (.int .i64 (m.blk k).worn) := by rw [cell_of_row _ _ _ _ _ _ h.hb]; exact (h.bs k hk).wo
theorem RO.b2 (h : RO own w m r rb cap cs pg fu tx) {k : Nat} (hk : k < m.n) : w.cell? ⟨rb, k * 5 + 2, none⟩ = some (.bool (m.blk k).bad) := by rw [cell_of_row _ _ _ _ _ _ h.hb]; exact (h.bs k hk).b
theorem RO.b3 (h : RO own w m r rb cap cs pg fu tx) {k : Nat} (hk : k < m.n) : w.cell? ⟨rb, k * 5 + 3, none⟩ = some (.bool (m.blk k).fails.isSome) := by rw [cell_of_row _ _ _ _ _ _ h.hb]; exact (h.bs k hk).f
theorem RO.rfroz (h : RO own w m r rb cap cs pg fu tx) (o : Nat) : w.frozen? ⟨r, o, none⟩ = false := frozen_of_row _ _ _ _ _ h.hr
theorem RO.bfroz (h : RO own w m r rb cap cs pg fu tx) (o : Nat) : w.frozen? ⟨rb, o, none⟩ = false := frozen_of_row _ _ _ _ _ h.hb
theorem RO.is (h : RO own w m r rb cap cs pg fu tx) {k : Nat} (hk : k < m.n) {p : Nat} (hp : p < m.pages) : w.cell? ⟨pg k, p * 2, none⟩ = some (.bool (decide (p < (m.blk k).text.length))) := by
  obtain ⟨ps, h1, h2⟩ := (h.bs k hk).p
  rw [cell_of_row _ _ _ _ _ _ h1]
  exact (h2 p hp).1
theorem RO.text (h : RO own w m r rb cap cs pg fu tx) {k : Nat} (hk : k < m.n) {p : Nat} (hp : p < m.pages) (hl : p < (m.blk k).text.length) : w.cell? ⟨pg k, p * 2 + 1, none⟩ = some (.string ((m.blk k).text.getD p ⟨#[]⟩)) := by
  obtain ⟨ps, h1, h2⟩ := (h.bs k hk).p
  rw [cell_of_row _ _ _ _ _ _ h1]
  obtain ⟨_, u, h3, h4⟩ := h2 p hp
  rw [h3, h4 hl]
theorem RO.same (h : RO own w m r rb cap cs pg fu tx) (hs : w.heap.size ≤ w'.heap.size) (hk : ∀ k, own k → w'.heap[k]? = w.heap[k]?) : RO own w' m r rb cap cs pg fu tx :=
  { oc := h.oc, ob := h.ob, og := h.og, lt := fun k ho => Nat.lt_of_lt_of_le (h.lt k ho) hs, ne := h.ne, gr := h.gr, inj := h.inj
    hr := (hk _ h.oc).trans h.hr, hb := (hk _ h.ob).trans h.hb
    bs := fun b hb => by
      have hB := h.bs b hb
      obtain ⟨ps, h1, h2⟩ := hB.p
      exact ⟨hB.s, hB.wo, hB.b, hB.f, hB.t, ps, (hk _ (h.og b hb)).trans h1, h2⟩
    f := h.f }
theorem RO.drewN (h : RO own w m r rb cap cs pg fu tx) (n : Nat) : RO own (w.drewN n) m r rb cap cs pg fu tx := h.same (Nat.le_refl _) fun _ _ => rfl
theorem there_rany (h : RO own w m r rb cap cs pg fu tx) (hn : m.n ≤ 64) (b : Int) : Calls Try.prog 36 #[.pointer (some ⟨r, 0, none⟩), .int .i64 b] w fun e w' => e = .returned (.bool (there m b)) ∧ w' = w := by
  have c0 := h.c0
  have e : there m b = (decide (0 ≤ b) && decide (b < (m.n : Int))) := by
    unfold there within
    congr 1
    rw [Bool.eq_iff_iff]
    simp
    omega
  rw [e]
  generalize m.n = n at c0 hn
  clear h e
  cases h1 : decide (0 ≤ b) with
  | false =>
    go_enter Try.func36, Try.ntmps36
    go_wp2_with fail
    go_ret
    exact ⟨rfl, rfl⟩
  | true =>
    go_enter Try.func36, Try.ntmps36
    go_wp2_with fail
    go_ret
    exact ⟨rfl, rfl⟩
theorem cut_rany (h : RO own w m r rb cap cs pg fu tx) (hd : m.data ≤ 256) (s : ByteArray) :
    Calls Try.prog 39 #[.pointer (some ⟨r, 0, none⟩), .string s] w fun e w' => e = .returned (.string (cut m s)) ∧ w' = w := by
  have h2 := h.c2
  unfold cut
  clear h
  generalize m.data = d at h2 hd
  by_cases hlt : d < s.size
  · rw [cut_long hlt]
    go_enter Try.func39, Try.ntmps39
    go_wp2_with fail
    go_ret
    exact ⟨rfl, rfl⟩
  · rw [cut_short hlt]
    go_enter Try.func39, Try.ntmps39
    go_wp2_with fail
    go_ret
    exact ⟨rfl, rfl⟩
theorem read_rnone (h : RO own w m r rb cap cs pg fu tx) (hn : m.n ≤ 64) {b : Int} (hb : there m b = false) (p : Int) :
    Calls Try.prog 37 #[.pointer (some ⟨r, 0, none⟩), .int .i64 b, .int .i64 p] w fun e w' => e = .returned (.tuple #[.string ⟨#[]⟩, .bool false]) ∧ w' = w := by
  have ct := there_rany h hn b
  rw [hb] at ct
  clear h hb
  go_enter Try.func37, Try.ntmps37
  go_wp2_with fail
  refine ct.mono ?_
  rintro e w' ⟨rfl, rfl⟩
  go_wp2_with fail
  go_ret2
  exact ⟨rfl, rfl⟩
theorem read_rout (h : RO own w m r rb cap cs pg fu tx) (hn : m.n ≤ 64) {b : Int} (hb : there m b = true) (p : Int) (hp : p < 0 ∨ (m.pages : Int) ≤ p) :
    Calls Try.prog 37 #[.pointer (some ⟨r, 0, none⟩), .int .i64 b, .int .i64 p] w fun e w' => e = .returned (.tuple #[.string ⟨#[]⟩, .bool false]) ∧ w' = w := by
  have ct := there_rany h hn b
  rw [hb] at ct
  have c1 := h.c1
  generalize m.pages = pp at c1 hp
  clear h hb
  by_cases h0 : p < 0
  · clear hp
    go_enter Try.func37, Try.ntmps37
    go_wp2_with fail
    refine ct.mono ?_
    rintro e w' ⟨rfl, rfl⟩
    go_wp2_with fail
    go_ret2
    exact ⟨rfl, rfl⟩
  · have hp2 : (pp : Int) ≤ p := by omega
    clear hp
    go_enter Try.func37, Try.ntmps37
    go_wp2_with fail
    refine ct.mono ?_
    rintro e w' ⟨rfl, rfl⟩
    go_wp2_with fail
    go_ret2
    exact ⟨rfl, rfl⟩
theorem read_rin (h : RO own w m r rb cap cs pg fu tx) (hn : m.n ≤ 64) (hpg : m.pages ≤ 32) {k : Nat} (hk : k < m.n) {p : Nat} (hp : p < m.pages) :
    Calls Try.prog 37 #[.pointer (some ⟨r, 0, none⟩), .int .i64 (k : Int), .int .i64 (p : Int)] w fun e w' =>
      e = .returned (.tuple (if p < (m.blk k).text.length then #[.string ((m.blk k).text.getD p ⟨#[]⟩), .bool true] else #[.string ⟨#[]⟩, .bool false])) ∧ w' = w := by
  have ct := there_rany h hn (k : Int)
  have hb : there m (k : Int) = true := by rw [there_nat]; simpa using hk
  rw [hb] at ct
  have c0 := h.c0
  have c1 := h.c1
  have d0 := h.b0 hk
  have hi := h.is hk hp
  have hp1 : ¬ ((p : Int) < 0) := by omega
  have hp2 : ¬ ((m.pages : Int) ≤ (p : Int)) := by omega
  have hk2 : (k : Int) < (m.n : Int) := by omega
  have hp3 : (p : Int) < (m.pages : Int) := by omega
  by_cases hl : p < (m.blk k).text.length
  · have hx := h.text hk hp hl
    rw [if_pos hl]
    rw [decide_eq_true hl] at hi
    generalize (m.blk k).text.getD p ⟨#[]⟩ = s at hx
    generalize m.pages = pp at c1 d0 hp hp2 hp3 hpg
    generalize m.n = nn at c0 hk hk2 hn
    generalize pg k = g at d0 hi hx
    clear h hb hl
    go_enter Try.func37, Try.ntmps37
    go_wp2_with fail
    refine ct.mono ?_
    rintro e w' ⟨rfl, rfl⟩
    go_wp2_with fail
    go_ret2
    exact ⟨rfl, rfl⟩
  · rw [if_neg hl]
    rw [decide_eq_false hl] at hi
    generalize m.pages = pp at c1 d0 hp hp2 hp3 hpg
    generalize m.n = nn at c0 hk hk2 hn
    generalize pg k = g at d0 hi
    clear h hb hl
    go_enter Try.func37, Try.ntmps37
    go_wp2_with fail
    refine ct.mono ?_
    rintro e w' ⟨rfl, rfl⟩
    go_wp2_with fail
    go_ret2
    exact ⟨rfl, rfl⟩
theorem read_rany (h : RO own w m r rb cap cs pg fu tx) {K : Nat} (ok : Ok m K) (b p : Int) :
    Calls Try.prog 37 #[.pointer (some ⟨r, 0, none⟩), .int .i64 b, .int .i64 p] w fun e w' => e = .returned (.tuple #[.string (readAt m b p).1, .bool (readAt m b p).2]) ∧ w' = w := by
  unfold readAt
  cases hb : there m b with
  | false => simpa using read_rnone h ok.n1 hb p
  | true =>
    by_cases hp : p < 0 ∨ (m.pages : Int) ≤ p
    · have hw : ¬ (true = true ∧ within p 0 (((at_ m b).text.length : Int) - 1) = true) := by
        rintro ⟨_, hw⟩
        unfold within at hw
        simp at hw
        have := ok.t b.toNat
        unfold at_ at hw
        omega
      rw [if_neg hw]
      exact read_rout h ok.n1 hb p hp
    · obtain ⟨k, rfl, hk⟩ := there_of hb
      obtain ⟨q, rfl⟩ : ∃ q : Nat, p = (q : Int) := ⟨p.toNat, by omega⟩
      have := read_rin h ok.n1 ok.p1 hk (p := q) (by omega)
      unfold at_
      rw [Int.toNat_natCast, Int.toNat_natCast]
      by_cases hl : q < (m.blk k).text.length
      · rw [if_pos hl] at this
        rw [if_pos ⟨rfl, by unfold within; simp; omega⟩]
        exact this
      · rw [if_neg hl] at this
        rw [if_neg (by rintro ⟨_, hw⟩; unfold within at hw; simp at hw; omega)]
        exact this
theorem next_rany (h : RO own w m r rb cap cs pg fu tx) {K : Nat} (ok : Ok m K) (b : Int) :
    Calls Try.prog 38 #[.pointer (some ⟨r, 0, none⟩), .int .i64 b] w fun e w' => e = .returned (.int .i64 (next m b)) ∧ w' = w := by
  unfold next at_
  have ct := there_rany h ok.n1 b
  cases hb : there m b with
  | false =>
    rw [hb] at ct
    clear h ok hb
    go_enter Try.func38, Try.ntmps38
    go_wp2_with fail
    go_loop [5, 6] (fun n i => n = .int .i64 0 ∧ i = .int .i64 0) (fun _ _ => 0)
    case atStart => exact ⟨rfl, rfl⟩
    case round =>
      obtain ⟨rfl, rfl⟩ := hrel
      go_wp2_with fail
      refine ct.mono ?_
      rintro e w' ⟨rfl, rfl⟩
      go_wp2_with fail
      go_ret
      exact ⟨rfl, rfl⟩
  | true =>
    rw [hb] at ct
    obtain ⟨k, rfl, hk⟩ := there_of hb
    rw [if_pos rfl, Int.toNat_natCast]
    have c0 := h.c0
    have c1 := h.c1
    have d0 := h.b0 hk
    have hi : ∀ p, p < m.pages → w.cell? ⟨pg k, p * 2, none⟩ = some (.bool (decide (p < (m.blk k).text.length))) := fun p hp => h.is hk hp
    have hk2 : (k : Int) < (m.n : Int) := by omega
    have hln := ok.t k
    have hpg := ok.p1
    have hn := ok.n1
    generalize (m.blk k).text.length = len at hi hln
    generalize m.pages = pp at c1 d0 hi hln hpg
    generalize m.n = nn at c0 hk hk2 hn
    generalize pg k = g at d0 hi
    clear h ok hb
    replace hi := Lib.hid hi
    go_enter Try.func38, Try.ntmps38
    go_wp2_with fail
    go_loop [5, 6] (fun n i => ∃ p : Nat, p ≤ pp ∧ n = .int .i64 ((min p len : Nat) : Int) ∧ i = .int .i64 p) (fun _ i => pp - (intOf i).toNat)
    case atStart => exact ⟨0, by omega, by simp, rfl⟩
    case round =>
      obtain ⟨p, hp, rfl, rfl⟩ := hrel
      by_cases hlt : p < pp
      · have hx := hi.out p hlt
        have hp3 : (p : Int) < (pp : Int) := by omega
        by_cases hl : p < len
        · rw [decide_eq_true hl] at hx
          have hm : Hid (((min (p + 1) len : Nat) : Int) = (p : Int) + 1) := Lib.hid (by omega)
          clear hl
          go_wp2_with fail
          refine ct.mono ?_
          rintro e w' ⟨rfl, rfl⟩
          go_wp2_with fail
          go_round
          case rel => exact ⟨p + 1, by omega, by rw [hm.out], by go_num⟩
          case measure => simp [intOf]; omega
        · rw [decide_eq_false hl] at hx
          have hm : Hid ((min (p + 1) len : Nat) = (min p len : Nat)) := Lib.hid (by omega)
          clear hl
          go_wp2_with fail
          refine ct.mono ?_
          rintro e w' ⟨rfl, rfl⟩
          go_wp2_with fail
          go_round
          case rel => exact ⟨p + 1, by omega, by rw [hm.out], by go_num⟩
          case measure => simp [intOf]; omega
      · obtain rfl : p = pp := by omega
        have hp3 : ¬ ((p : Int) < (p : Int)) := by omega
        go_wp2_with fail
        refine ct.mono ?_
        rintro e w' ⟨rfl, rfl⟩
        go_wp2_with fail
        go_ret
        exact ⟨rfl, rfl⟩
end
end Go.Proofs.Ytfjnjhlmmdeilaa.RefA
