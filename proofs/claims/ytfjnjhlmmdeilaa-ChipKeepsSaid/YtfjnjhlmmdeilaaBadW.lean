/- The walk of ChipBad. -/
import Derived.Test.YtfjnjhlmmdeilaaDoes
import Derived.Test.YtfjnjhlmmdeilaaBadM
set_option linter.unusedVariables false
namespace Go.Proofs.Ytfjnjhlmmdeilaa.BadW
open Go.RowKit Go.Proofs.Ytfjnjhlmmdeilaa.ChipM Go.Proofs.Ytfjnjhlmmdeilaa.ChipA Go.Proofs.Ytfjnjhlmmdeilaa.RefA Go.Proofs.Ytfjnjhlmmdeilaa.ChipC Go.Proofs.Ytfjnjhlmmdeilaa.BadM

theorem infoBool : (Try.prog.info? 4).map (fun i => (i.zero, i.size, i.bytes)) = some (some (.bool false), 1, 1) := by kernel_rfl
theorem infoStr : (Try.prog.info? 9).map (fun i => (i.zero, i.size, i.bytes)) = some (some (.string ⟨#[]⟩), 1, 16) := by kernel_rfl
/-- Both chips, four blocks each. -/
structure LB (w : World) (c r k : Nat) (oc or : Nat → Prop) (m : Chp) (W : World) : Prop where
  h1 : ChipAt oc W c m
  h2 : RefAt or W r m
  hd : ∀ j, oc j → ¬ or j
  ho : ∀ j, oc j → w.heap.size ≤ j
  hr : ∀ j, or j → w.heap.size ≤ j
  ok : Ok m k
  n4 : m.n = 4
  b : Below w.heap.size w W
theorem LB.told {w W W' : World} {c r k : Nat} {oc or : Nat → Prop} {m m' : Chp} {e : Ending} (h : LB w c r k oc or m W) (ok : Ok m' (k + 1)) (hn : m'.n = m.n) (hh : Both.Done oc or W c r m' e W') : ∃ oc' or', LB w c r (k + 1) oc' or' m' W' ∧ ∀ g, g < W.heap.size → ¬ oc g → ¬ or g → W'.heap[g]? = W.heap[g]? ∧ ¬ oc' g ∧ ¬ or' g := by
  obtain ⟨_, oc', or', t⟩ := hh
  have hb := h.b
  refine ⟨oc', or', ⟨t.a, t.b, t.dis, fun j hj => (t.nc j hj).elim (h.ho j) fun x => Nat.le_trans hb.size x, fun j hj => (t.nr j hj).elim (h.hr j) fun x => Nat.le_trans hb.size x, ok, hn.trans h.n4, ?_⟩, fun g hg h1 h2 => ⟨t.aside hg h1 h2, fun x => ?_, fun x => ?_⟩⟩
  · exact hb.trans (t.foot.below hb.size fun j hj => hj.elim (h.ho j) (h.hr j))
  · exact (t.nc g x).elim h1 fun y => by omega
  · exact (t.nr g x).elim h2 fun y => by omega
theorem LB.first {w w1 w2 w3 : World} {v : Value} {pg : Nat → Nat} (hb : Below w.heap.size w w1)
    (hc : ChipAt (fun k => k = w1.heap.size ∨ k = w1.heap.size + 1) w2 (w1.heap.size + 1) (new 4 4 40)) (hf : Below w1.heap.size w1 w2) (hn : RefN.NW w2 4 40 4 v v pg w3) :
    ∃ oc or, LB w (w1.heap.size + 1) w2.heap.size 0 oc or (new 4 4 40) w3 := by
  have hr := hn.refat (by omega) (by omega)
  refine ⟨_, _, ChipAt.below hc hn.b, hr, fun j h1 h2 => ?_, fun j h1 => ?_, fun j h1 => ?_, ok_new (by decide +kernel), rfl, ?_⟩
  · have := hc.lt j h1
    omega
  · have := hb.size
    omega
  · have := hb.size
    have := hf.size
    omega
  · exact (hb.trans (hf.mono hb.size)).trans (hn.b.mono (Nat.le_trans hb.size hf.size))
/-! ### The two rows -/
def xsB (m : Chp) (n : Nat) : List Value := (List.range n).map fun (b : Nat) => .bool (bad m (b : Int))
def xsH (m : Chp) (n : Nat) : List Value := (List.range n).map fun (i : Nat) => .string (readAt m ((i / 4 : Nat) : Int) ((i % 4 : Nat) : Int)).1
theorem xsB_succ (m : Chp) (n : Nat) : xsB m n ++ [.bool (bad m (n : Int))] = xsB m (n + 1) := by unfold xsB; rw [List.range_succ, List.map_append]; rfl
theorem xsH_succ (m : Chp) (n : Nat) : xsH m n ++ [.string (readAt m ((n / 4 : Nat) : Int) ((n % 4 : Nat) : Int)).1] = xsH m (n + 1) := by unfold xsH; rw [List.range_succ, List.map_append]; rfl
structure RW (m : Chp) (W0 : World) (n1 n2 : Nat) (vb vh : Value) (W : World) : Prop where
  b : Below W0.heap.size W0 W
  r1 : W.ownsRow W0.heap.size 4 1 vb n1 (xsB m n1)
  r2 : W.ownsRow W0.heap.size 9 1 vh n2 (xsH m n2)
theorem row_lt {w : World} {base : Nat} {e : TypeId} {size n : Nat} {v : Value} {xs : List Value} (h : w.ownsRow base e size v n xs) (k : Nat) (hk : v.ownBlock = some k) : base ≤ k ∧ k < w.heap.size := by
  rcases h.2 with ⟨rfl, _⟩ | ⟨g, cap, cur, rfl, hb, hh, _⟩
  · simp [Value.ownBlock] at hk
  · have : g = k := by simpa [Value.ownBlock] using hk
    subst this
    exact ⟨hb, (Array.getElem?_eq_some_iff.1 hh).1⟩
/-- Rows of different elements lie apart. -/
theorem row_apart {w : World} {b1 b2 : Nat} {e1 e2 : TypeId} {s1 s2 n1 n2 : Nat} {v1 v2 : Value} {x1 x2 : List Value} (he : e1 ≠ e2) (h1 : w.ownsRow b1 e1 s1 v1 n1 x1) (h2 : w.ownsRow b2 e2 s2 v2 n2 x2) {k : Nat} (hk : v1.ownBlock = some k) : v2.ownBlock ≠ some k := by
  intro hk2
  rcases h1.2 with ⟨rfl, _⟩ | ⟨g, cap, cur, rfl, _, hh, _⟩
  · simp [Value.ownBlock] at hk
  · rcases h2.2 with ⟨rfl, _⟩ | ⟨g2, cap2, cur2, rfl, _, hh2, _⟩
    · simp [Value.ownBlock] at hk2
    · have e1 : g = k := by simpa [Value.ownBlock] using hk
      have e2 : g2 = k := by simpa [Value.ownBlock] using hk2
      subst e1 e2
      rw [hh] at hh2
      injection hh2 with hh2
      injection hh2 with _ hh2
      exact he hh2
theorem row_alloc {w : World} {base : Nat} {e : TypeId} {size n : Nat} {v : Value} {xs : List Value} (h : w.ownsRow base e size v n xs) (o : Obj) : (w.alloc o).ownsRow base e size v n xs :=
  RefN.ownsRow_same h fun j hj => Below.heap_alloc _ _ _ (row_lt h j hj).2
section
variable {m : Chp} {W0 W W' : World} {n1 n2 : Nat} {vb vh v' : Value}
theorem RW.bool (h : RW m W0 n1 n2 vb vh W) {o : Obj} (hr : W'.ownsRow W0.heap.size 4 1 v' (n1 + 1) (xsB m n1 ++ [.bool (bad m (n1 : Int))])) (hg : (W.alloc o).grownBy W' vb.ownBlock) : RW m W0 (n1 + 1) n2 v' vh W' where
  b := (h.b.alloc h.b.size o).grown hg (Nat.le_trans h.b.size (Foot.alloc (fun _ => True) W o).size) fun k hk => (row_lt h.r1 k hk).1
  r1 := by rw [← xsB_succ]; exact hr
  r2 := RefN.ownsRow_same (row_alloc h.r2 o) fun j hj => hg.block j (row_lt (row_alloc h.r2 o) j hj).2 fun e => row_apart (by decide) h.r1 h.r2 e.symm hj
theorem RW.str (h : RW m W0 n1 n2 vb vh W) {o : Obj} {s : ByteArray} (hs : s = (readAt m ((n2 / 4 : Nat) : Int) ((n2 % 4 : Nat) : Int)).1) (hr : W'.ownsRow W0.heap.size 9 1 v' (n2 + 1) (xsH m n2 ++ [.string s])) (hg : (W.alloc o).grownBy W' vh.ownBlock) : RW m W0 n1 (n2 + 1) vb v' W' where
  b := (h.b.alloc h.b.size o).grown hg (Nat.le_trans h.b.size (Foot.alloc (fun _ => True) W o).size) fun k hk => (row_lt h.r2 k hk).1
  r1 := RefN.ownsRow_same (row_alloc h.r1 o) fun j hj => hg.block j (row_lt (row_alloc h.r1 o) j hj).2 fun e => row_apart (by decide) h.r2 h.r1 e.symm hj
  r2 := by rw [← xsH_succ, ← hs]; exact hr
end
/-! ### The second round -/
structure P3 (w W2 : World) (c r k gb gh : Nat) (m0 : Chp) (dead : Bool) (oc or : Nat → Prop) (m : Chp) (W : World) : Prop where
  l : LB w c r k oc or m W
  lb : gb < W.heap.size
  lh : gh < W.heap.size
  eb : W.heap[gb]? = W2.heap[gb]?
  eh : W.heap[gh]? = W2.heap[gh]?
  nb : ¬ oc gb ∧ ¬ or gb
  nh : ¬ oc gh ∧ ¬ or gh
  n0 : m0.n = 4
  keep : ∀ j, (m0.blk j).bad = true → (m.blk j).bad = true ∧ (m.blk j).text = (m0.blk j).text
  dd : dead = true → m.dead = true ∧ ∀ j, (m.blk j).text = (m0.blk j).text
section
variable {w W2 W W' : World} {c r k gb gh : Nat} {m0 m : Chp} {dead : Bool} {oc or : Nat → Prop} {e : Ending}
theorem P3.told (h : P3 w W2 c r k gb gh m0 dead oc or m W) (q b p : Int) (s : ByteArray) (dead' : Bool) (hq : dead' = true → dead = true ∧ q ≠ 4) (hh : Both.Done oc or W c r (Both.act m q b p s) e W') : ∃ oc' or', P3 w W2 c r (k + 1) gb gh m0 dead' oc' or' (Both.act m q b p s) W' := by
  have hs : W.heap.size ≤ W'.heap.size := by
    obtain ⟨_, _, _, t⟩ := hh
    exact t.foot.size
  obtain ⟨oc', or', hl, hg⟩ := h.l.told (Both.act_ok h.l.ok q b p s) (act_n m q b p s) hh
  have g1 := hg gb h.lb h.nb.1 h.nb.2
  have g2 := hg gh h.lh h.nh.1 h.nh.2
  refine ⟨oc', or', hl, Nat.lt_of_lt_of_le h.lb hs, Nat.lt_of_lt_of_le h.lh hs, g1.1.trans h.eb, g2.1.trans h.eh, g1.2, g2.2, h.n0, fun j hj => ?_, fun hd => ?_⟩
  · obtain ⟨k1, k2⟩ := h.keep j hj
    have := act_bad k1 q b p s
    exact ⟨this.1, this.2.trans k2⟩
  · obtain ⟨d1, d2⟩ := hq hd
    obtain ⟨e1, e2⟩ := h.dd d1
    have := act_dead e1 q b p d2 s
    exact ⟨this.1, fun j => (this.2 j).trans (e2 j)⟩
theorem P3.stay (h : P3 w W2 c r k gb gh m0 dead oc or m W) (ha : ChipAt oc W' c m) (hf : Foot oc W W') : P3 w W2 c r k gb gh m0 dead oc or m W' where
  l := ⟨ha, h.l.h2.foot hf fun k h1 h2 => h.l.hd k h2 h1, h.l.hd, h.l.ho, h.l.hr, h.l.ok, h.l.n4, h.l.b.trans (hf.below h.l.b.size h.l.ho)⟩
  lb := Nat.lt_of_lt_of_le h.lb hf.size
  lh := Nat.lt_of_lt_of_le h.lh hf.size
  eb := (hf.block gb h.lb h.nb.1).trans h.eb
  eh := (hf.block gh h.lh h.nh.1).trans h.eh
  nb := h.nb
  nh := h.nh
  n0 := h.n0
  keep := h.keep
  dd := h.dd
theorem bad_at {m : Chp} (hn : m.n = 4) {q : Nat} (hq : q < 4) : bad m (q : Int) = (m.blk q).bad := by
  unfold bad there within at_
  rw [hn, Int.toNat_natCast]
  have h1 : decide ((0 : Int) ≤ (q : Int)) = true := decide_eq_true (by omega)
  have h2 : decide ((q : Int) ≤ ((4 : Nat) : Int) - 1) = true := decide_eq_true (by omega)
  rw [h1, h2]
  rfl
/-- Where a block was bad, or the chip is dead: its pages are as they were. -/
theorem P3.same (h : P3 w W2 c r k gb gh m0 dead oc or m W) {q : Nat} (hq : (m0.blk q).bad = true ∨ dead = true) (p : Int) : (readAt m (q : Int) p).1 = (readAt m0 (q : Int) p).1 := by
  rw [text_eq (h.l.n4.trans h.n0.symm) (hq.elim (fun x => (h.keep q x).2) fun x => (h.dd x).2 q)]
end
/-- The rows, when they are full. -/
structure Full (m0 : Chp) (gb gh : Nat) (W2 : World) : Prop where
  fb : ∀ q, q < 4 → W2.cell? ⟨gb, q, none⟩ = some (.bool (m0.blk q).bad)
  fh : ∀ q p, q < 4 → p < 4 → W2.cell? ⟨gh, 4 * q + p, none⟩ = some (.string (readAt m0 (q : Int) (p : Int)).1)
theorem row_cell {w : World} {base : Nat} {e : TypeId} {n : Nat} {v : Value} {xs : List Value} (h : w.ownsRow base e 1 v n xs) (h0 : 0 < n) : ∃ g cap, v = .slice (some ⟨g, 0, none⟩) n cap ∧ base ≤ g ∧ g < w.heap.size ∧ ∀ i, i < n → w.cell? ⟨g, i, none⟩ = xs[i]? := by
  rcases h.2 with ⟨_, e⟩ | ⟨g, cap, cur, rfl, hb, hh, hc, _, hcur, ht⟩
  · omega
  · refine ⟨g, cap, rfl, hb, (Array.getElem?_eq_some_iff.1 hh).1, fun i hi => ?_⟩
    rw [cell_of_row _ _ _ _ _ _ hh, ← ht, List.getElem?_take, if_pos (by omega)]
    simp
theorem RW.full {m : Chp} {W0 W : World} {vb vh : Value} (h : RW m W0 4 16 vb vh W) (hn : m.n = 4) : ∃ gb gh cb ch, vb = .slice (some ⟨gb, 0, none⟩) 4 cb ∧ vh = .slice (some ⟨gh, 0, none⟩) 16 ch ∧ W0.heap.size ≤ gb ∧ W0.heap.size ≤ gh ∧ gb < W.heap.size ∧ gh < W.heap.size ∧ Full m gb gh W := by
  obtain ⟨gb, cb, e1, b1, l1, f1⟩ := row_cell h.r1 (by omega)
  obtain ⟨gh, ch, e2, b2, l2, f2⟩ := row_cell h.r2 (by omega)
  refine ⟨gb, gh, cb, ch, e1, e2, b1, b2, l1, l2, fun q hq => ?_, fun q p hq hp => ?_⟩
  · rw [f1 q hq, ← bad_at hn hq]
    unfold xsB
    rw [List.getElem?_map, List.getElem?_range hq]
    rfl
  · rw [f2 _ (by omega)]
    unfold xsH
    rw [List.getElem?_map, List.getElem?_range (by omega)]
    have h1 : (4 * q + p) / 4 = q := by omega
    have h2 : (4 * q + p) % 4 = p := by omega
    simp only [Option.map_some, h1, h2]
theorem LB.second {w W0 W2 : World} {c r k gb gh : Nat} {oc or : Nat → Prop} {m : Chp} (h : LB w c r k oc or m W0) (hb : Below W0.heap.size W0 W2) (g1 : W0.heap.size ≤ gb) (g2 : W0.heap.size ≤ gh) (l1 : gb < W2.heap.size) (l2 : gh < W2.heap.size) : P3 w W2 c r k gb gh m m.dead oc or m W2 where
  l := ⟨h.h1.below hb, h.h2.same hb.size fun j hj => hb.block j (h.h2.lt j hj), h.hd, h.ho, h.hr, h.ok, h.n4, h.b.trans (hb.mono h.b.size)⟩
  lb := l1
  lh := l2
  eb := rfl
  eh := rfl
  nb := ⟨fun x => by have := h.h1.lt _ x; omega, fun x => by have := h.h2.lt _ x; omega⟩
  nh := ⟨fun x => by have := h.h1.lt _ x; omega, fun x => by have := h.h2.lt _ x; omega⟩
  n0 := h.n4
  keep := fun j hj => ⟨hj, rfl⟩
  dd := fun hd => ⟨hd, fun _ => rfl⟩
section
variable {w W2 W W' : World} {c r k gb gh : Nat} {m0 m : Chp} {dead : Bool} {oc or : Nat → Prop}
theorem P3.badc (h : P3 w W2 c r k gb gh m0 dead oc or m W) {q : Nat} (hq : q < 4) (hb : (m.blk q).bad = true) : Calls Try.prog 22 #[.pointer (some ⟨c, 0, none⟩), .int .i64 (q : Int)] W fun e w' => e = .returned (.bool true) ∧ w' = W := by
  have := bad_c h.l.h1 h.l.ok (q : Int)
  rw [bad_at h.l.n4 hq, hb] at this
  exact this
theorem P3.prog (h : P3 w W2 c r k gb gh m0 dead oc or m W) {q : Nat} (hb : (m.blk q).bad = true) (p : Int) (s : ByteArray) : Calls Try.prog 14 #[.pointer (some ⟨c, 0, none⟩), .int .i64 (q : Int), .int .i64 p, .string s] W fun e w' => ∃ f : Int, (f == 0) = false ∧ e = .returned (.int .i64 f) ∧ P3 w W2 c r k gb gh m0 dead oc or m w' := by
  refine (program_c h.l.h1 h.l.ok (q : Int) p s).mono fun e w' hh => ?_
  obtain ⟨h1, h2, _⟩ := bad_refuses hb p s
  refine ⟨_, ?_, hh.e, h.stay (h2 ▸ hh.h) hh.f⟩
  simpa using h1
theorem P3.er (h : P3 w W2 c r k gb gh m0 dead oc or m W) (hk : k < 9223372036854775807) {q : Nat} (hb : (m.blk q).bad = true) : Calls Try.prog 11 #[.pointer (some ⟨c, 0, none⟩), .int .i64 (q : Int)] W fun e w' => ∃ f : Int, (f == 0) = false ∧ e = .returned (.int .i64 f) ∧ P3 w W2 c r k gb gh m0 dead oc or m w' := by
  refine (erase_c h.l.h1 h.l.ok hk (q : Int)).mono fun e w' hh => ?_
  obtain ⟨_, _, h1, h2⟩ := bad_refuses hb 0 ⟨#[]⟩
  refine ⟨_, ?_, hh.e, h.stay (h2 ▸ hh.h) hh.f⟩
  simpa using h1
end
set_option maxHeartbeats 8000000 in
set_option maxRecDepth 100000 in
theorem bad_main (a : Option Addr) (len cap : Nat) (z : Nat → Int × Int × Int × ByteArray) (a2 : Option Addr) (len2 cap2 : Nat) (z2 : Nat → Int × Int × Int × ByteArray) (w : World) (hl : len ≤ 60) (hl2 : len2 ≤ 60)
    (hc : ∀ i, i < len → ∃ x, a = some x ∧ OpenA.Cells w x i (z i)) (hc2 : ∀ i, i < len2 → ∃ x, a2 = some x ∧ OpenA.Cells w x i (z2 i)) :
    Calls Try.prog 8 #[.slice a len cap, .slice a2 len2 cap2] w fun e w' => e = .returned (.bool true) ∧ Below w.heap.size w w' := by
  have hnew := new_c 4 4 40 (by decide +kernel)
  have hrew := RefN.new_r 4 4 40 (by omega) (by omega) (by omega) (by omega) (by omega) (by omega)
  have q1 : decide (60 < (len : Int)) = false := decide_eq_false (by omega)
  have q2 : decide (60 < len) = false := decide_eq_false (by omega)
  have q3 : decide (60 < (len2 : Int)) = false := decide_eq_false (by omega)
  have q4 : decide (60 < len2) = false := decide_eq_false (by omega)
  obtain ⟨ib, bi, bz0, bz1, bz2⟩ := info_parts infoBool
  obtain ⟨is, si, sz0, sz1, sz2⟩ := info_parts infoStr
  go_enter Try.func8, Try.ntmps8
  go_wp2_with fail
  refine (ChipW.works_any _).mono ?_
  rintro e w1 ⟨rfl, hb1⟩
  go_wp2_with fail
  refine (hnew _).mono ?_
  rintro e w2 ⟨rfl, h2, f2⟩
  go_wp2_with fail
  refine (hrew _).mono ?_
  rintro e w3 ⟨r, v, pg, rfl, rfl, hN⟩
  obtain ⟨oc, or, hT⟩ := LB.first hb1 h2 f2 hN
  clear hN h2 f2 hb1 hnew hrew
  generalize w1.heap.size + 1 = c at hT ⊢
  generalize w2.heap.size = r at hT ⊢
  generalize new 4 4 40 = m at hT
  replace hT := Lib.hid hT
  go_wp2_with fail
  clear q1 q2 q3 q4
  go_loopw [9] (fun i wr => ∃ k : Nat, k ≤ len ∧ i = .int .i64 k ∧ ∃ oc or m, LB w c r k oc or m wr) (fun i _ => len - (intOf i).toNat)
  case atStart => exact ⟨0, by omega, rfl, _, _, _, hT.out⟩
  case round =>
    clear hT
    obtain ⟨k, hk, rfl, oc, or, m, hT⟩ := hrel
    by_cases hlk : k < len
    · obtain ⟨x, rfl, hx⟩ := hc k hlk
      have ha := Does.act_later hx hT.b
      have hbo := Both.both_c hT.h1 hT.h2 hT.hd hT.ok (by omega) (z k).1 (z k).2.1 (z k).2.2.1 hx.p (z k).2.2.2
      have hto := fun e W' => hT.told (W' := W') (e := e) (Both.act_ok hT.ok (z k).1 (z k).2.1 (z k).2.2.1 (z k).2.2.2) (act_n m (z k).1 (z k).2.1 (z k).2.2.1 (z k).2.2.2)
      clear hx hc hT hc2
      generalize Both.act m (z k).1 (z k).2.1 (z k).2.2.1 (z k).2.2.2 = m2 at hbo hto
      generalize Both.cellsA (z k).1 (z k).2.1 (z k).2.2.1 (z k).2.2.2 = cs at ha hbo
      replace hbo := Lib.hid hbo
      replace hto := Lib.hid hto
      go_wp2_with (refine Calm.wpList_val rfl (Calm.run_op_load rfl rfl ha) ?_)
      refine hbo.out.mono ?_
      rintro e w' hh
      obtain ⟨oc', or', hT, _⟩ := hto.out _ _ hh
      obtain ⟨rfl, _⟩ := hh
      replace hT := Lib.hid hT
      clear hbo hto ha
      go_wp2_with fail
      go_roundw
      case rel => exact ⟨k + 1, by omega, by go_num, _, _, _, hT.out⟩
      case measure => simp [intOf]; omega
    · obtain rfl : k = len := by omega
      clear hc
      have hR : RW m wr 0 0 (.slice none 0 0) (.slice none 0 0) wr := ⟨Below.refl _ _, ⟨rfl, Or.inl ⟨rfl, rfl⟩⟩, ⟨rfl, Or.inl ⟨rfl, rfl⟩⟩⟩
      replace hR := Lib.hid hR
      replace hT := Lib.hid hT
      go_wp2_with fail
      go_loopw [12, 10, 11] (fun i vb vh W => ∃ q : Nat, q ≤ 4 ∧ i = .int .i64 q ∧ Hid (RW m wr q (4 * q) vb vh W)) (fun i _ _ _ => 4 - (intOf i).toNat)
      case atStart => exact ⟨0, by omega, rfl, hR⟩
      case round =>
        clear hR
        obtain ⟨q, hq, rfl, hR⟩ := hrel
        by_cases hlq : q < 4
        · have pb := bad_c (hT.out.h1.below hR.out.b) hT.out.ok (q : Int)
          have hsz := hR.out.b.size
          have hown := row_alloc hR.out.r1 (.cells #[.bool (bad m (q : Int))] 4)
          have hbl := fun v' W' => RW.bool (v' := v') (W' := W') (o := .cells #[.bool (bad m (q : Int))] 4) hR.out
          replace hbl := Lib.hid hbl
          generalize hbq : bad m (q : Int) = bq at pb hown hbl
          clear hbq
          go_wp2_with fail
          refine pb.mono ?_
          rintro e w' ⟨rfl, rfl⟩
          go_wp2_with (at_builtin; refine wpList_append_own _ rfl _ _ 47 rfl wr.heap.size 4 ib (.bool false) 1 1 Try.underlying47 bi bz0 bz1 bz2 rfl (by decide) _ _ _ rfl hown ⟨_, 0, none⟩ 1 1 [.bool bq] rfl rfl ?c1 ?c2 ?c3 ?c4 ?c5 ?_)
          case c1 =>
            intro j u hj
            have hj0 : j = 0 := by
              have := (List.getElem?_eq_some_iff.1 hj).1
              simp at this
              exact this
            subst hj0
            simp at hj
            subst hj
            simp [Addr.add]
          case c2 =>
            intro u hu
            simp only [List.mem_singleton] at hu
            subst hu
            rfl
          case c3 => unfold maxLen; omega
          case c4 => omega
          case c5 => exact Nat.le_trans hsz (Foot.alloc (fun _ => True) _ _).size
          intro v' w5 hown1 hgrow _
          have hR2 := hbl.out _ _ hown1 hgrow
          replace hR2 := Lib.hid hR2
          clear hbl hown hown1 hgrow hR pb hsz
          go_wp2_with fail
          go_loopw [13, 11] (fun i vh W => ∃ j : Nat, j ≤ 4 ∧ i = .int .i64 j ∧ Hid (RW m wr (q + 1) (4 * q + j) v' vh W)) (fun i _ _ => 4 - (intOf i).toNat)
          case atStart => exact ⟨0, by omega, rfl, hR2⟩
          case round =>
            clear hR2
            obtain ⟨j, hj, rfl, hR⟩ := hrel
            by_cases hlj : j < 4
            · have pr := read_c (hT.out.h1.below hR.out.b) hT.out.ok (q : Int) (j : Int)
              have hsz := hR.out.b.size
              have ht : (readAt m (q : Int) (j : Int)).1 = (readAt m (((4 * q + j) / 4 : Nat) : Int) (((4 * q + j) % 4 : Nat) : Int)).1 := by
                rw [show (4 * q + j) / 4 = q by omega, show (4 * q + j) % 4 = j by omega]
              have hown := row_alloc hR.out.r2 (.cells #[.string (readAt m (q : Int) (j : Int)).1] 9)
              have hbl := fun v' W' => RW.str (v' := v') (W' := W') (o := .cells #[.string (readAt m (q : Int) (j : Int)).1] 9) hR.out ht
              replace hbl := Lib.hid hbl
              generalize htx : (readAt m (q : Int) (j : Int)).1 = tx at pr hown hbl
              generalize (readAt m (q : Int) (j : Int)).2 = tok at pr
              clear htx ht
              go_wp2_with fail
              refine pr.mono ?_
              rintro e w' ⟨rfl, rfl⟩
              go_wp2_with (at_builtin; refine wpList_append_own _ rfl _ _ 32 rfl wr.heap.size 9 is (.string ⟨#[]⟩) 1 16 Try.underlying32 si sz0 sz1 sz2 rfl (by decide) _ _ _ rfl hown ⟨_, 0, none⟩ 1 1 [.string tx] rfl rfl ?c1 ?c2 ?c3 ?c4 ?c5 ?_)
              case c1 =>
                intro j u hj
                have hj0 : j = 0 := by
                  have := (List.getElem?_eq_some_iff.1 hj).1
                  simp at this
                  exact this
                subst hj0
                simp at hj
                subst hj
                simp [Addr.add]
              case c2 =>
                intro u hu
                simp only [List.mem_singleton] at hu
                subst hu
                rfl
              case c3 => unfold maxLen; omega
              case c4 => omega
              case c5 => exact Nat.le_trans hsz (Foot.alloc (fun _ => True) _ _).size
              intro v6 w6 hown1 hgrow _
              have hR2 := hbl.out _ _ hown1 hgrow
              replace hR2 := Lib.hid hR2
              clear hbl hown hown1 hgrow hR pr hsz
              go_wp2_with fail
              go_roundw
              case rel => exact ⟨j + 1, by omega, by go_num, hR2⟩
              case measure => simp [intOf]; omega
            · obtain rfl : j = 4 := by omega
              go_wp2_with fail
              go_roundw
              case rel => exact ⟨q + 1, by omega, by go_num, hR⟩
              case measure => simp [intOf]; omega
        · obtain rfl : q = 4 := by omega
          obtain ⟨gb, gh, cb, ch, rfl, rfl, g1, g2, l1, l2, hF⟩ := RW.full hR.out hT.out.n4
          have hP := hT.out.second hR.out.b g1 g2 l1 l2
          have pd := dead_c hP.l.h1
          clear hT hR g1 g2 l1 l2
          generalize m.dead = dd at hP pd
          replace hP := Lib.hid hP
          replace hF := Lib.hid hF
          go_wp2_with fail
          refine pd.mono ?_
          rintro e W ⟨rfl, rfl⟩
          clear pd
          go_wp2_with fail
          go_loopw [17, 16] (fun i dv W3 => ∃ (j : Nat) (d2 : Bool), j ≤ len2 ∧ i = .int .i64 j ∧ dv = .bool d2 ∧ ∃ oc or m2, Hid (P3 w W c r (k + j) gb gh m d2 oc or m2 W3)) (fun i _ _ => len2 - (intOf i).toNat)
          case atStart => exact ⟨0, dd, by omega, rfl, rfl, _, _, _, hP⟩
          case round =>
            clear hP
            obtain ⟨j, d2, hj, rfl, rfl, oc, or, m2, hP⟩ := hrel
            by_cases hlj : j < len2
            · obtain ⟨x, rfl, hx⟩ := hc2 j hlj
              have hlb := hP.out.l.b
              have ha := Does.act_later hx hlb
              have hx0 : wr.cell? (x.add (j * 4)) = some (.int .i64 (z2 j).1) := (hlb.cell (World.block_lt_of_cell? _ _ hx.c0)).trans hx.c0
              have hbo := Both.both_c hP.out.l.h1 hP.out.l.h2 hP.out.l.hd hP.out.l.ok (by omega) (z2 j).1 (z2 j).2.1 (z2 j).2.2.1 hx.p (z2 j).2.2.2
              clear hlb
              by_cases h4 : (z2 j).1 = 4
              · skip
                rw [h4] at hx0
                have hto := fun e W' => hP.out.told (W' := W') (e := e) (z2 j).1 (z2 j).2.1 (z2 j).2.2.1 (z2 j).2.2.2 false (fun x => by cases x)
                clear hx hc2
                generalize Both.act m2 (z2 j).1 (z2 j).2.1 (z2 j).2.2.1 (z2 j).2.2.2 = m3 at hbo hto
                generalize Both.cellsA (z2 j).1 (z2 j).2.1 (z2 j).2.2.1 (z2 j).2.2.2 = cs at ha hbo
                clear h4
                replace hbo := Lib.hid hbo
                replace hto := Lib.hid hto
                go_wp2_with (refine Calm.wpList_val rfl (Calm.run_op_load rfl rfl ha) ?_)
                refine hbo.out.mono ?_
                rintro e w' hh
                obtain ⟨oc', or', hP'⟩ := hto.out _ _ hh
                obtain ⟨rfl, _⟩ := hh
                replace hP := Lib.hid hP'
                clear hbo hto ha hP' hx0
                go_wp2_with fail
                go_loopw [18] (fun i W4 => ∃ q : Nat, q ≤ 4 ∧ i = .int .i64 q ∧ Hid (P3 w W c r (k + j + 1) gb gh m false oc' or' m3 W4)) (fun i _ => 4 - (intOf i).toNat)
                case atStart => exact ⟨0, by omega, rfl, hP⟩
                case round =>
                  clear hP
                  obtain ⟨q, hq, rfl, hP⟩ := hrel
                  by_cases hlq : q < 4
                  · have hq4 : (q : Int) < 4 := by omega
                    go_wp2_with fail
                    go_loopw [19] (fun i W5 => ∃ p : Nat, p ≤ 4 ∧ i = .int .i64 p ∧ Hid (P3 w W c r (k + j + 1) gb gh m false oc' or' m3 W5)) (fun i _ => 4 - (intOf i).toNat)
                    case atStart => exact ⟨0, by omega, rfl, hP⟩
                    case round =>
                      clear hP
                      obtain ⟨p, hp, rfl, hP⟩ := hrel
                      by_cases hlp : p < 4
                      · have hS := fun x => hP.out.same (q := q) x (p : Int)
                        have pr := read_c hP.out.l.h1 hP.out.l.ok (q : Int) (p : Int)
                        have fb : wr.cell? ⟨gb, q, none⟩ = some (.bool (m.blk q).bad) := (World.cell?_of_block (w := W) hP.out.eb).trans (hF.out.fb q hlq)
                        have fh : wr.cell? ⟨gh, 4 * q + p, none⟩ = some (.string (readAt m (q : Int) (p : Int)).1) := (World.cell?_of_block (w := W) hP.out.eh).trans (hF.out.fh q p hlq hlp)
                        generalize (m.blk q).bad = B at hS fb
                        cases B with
                        | true =>
                          rw [hS (Or.inl rfl)] at pr
                          generalize (readAt m (q : Int) (p : Int)).1 = t at pr fh
                          generalize (readAt m3 (q : Int) (p : Int)).2 = tk at pr
                          clear hS
                          go_wp2_with fail
                          refine pr.mono ?_
                          rintro e w' ⟨rfl, rfl⟩
                          clear pr
                          go_wp2_with fail
                          go_roundw
                          case rel => exact ⟨p + 1, by omega, by go_num, hP⟩
                          case measure => simp [intOf]; omega
                        | false =>
                          generalize (readAt m (q : Int) (p : Int)).1 = t at fh
                          generalize (readAt m3 (q : Int) (p : Int)).1 = t2 at pr
                          generalize (readAt m3 (q : Int) (p : Int)).2 = tk at pr
                          clear hS
                          go_wp2_with fail
                          refine pr.mono ?_
                          rintro e w' ⟨rfl, rfl⟩
                          clear pr
                          go_wp2_with fail
                          go_roundw
                          case rel => exact ⟨p + 1, by omega, by go_num, hP⟩
                          case measure => simp [intOf]; omega
                      · obtain rfl : p = 4 := by omega
                        have fb : wr.cell? ⟨gb, q, none⟩ = some (.bool (m.blk q).bad) := (World.cell?_of_block (w := W) hP.out.eb).trans (hF.out.fb q hlq)
                        have hkp := hP.out.keep q
                        generalize (m.blk q).bad = B at fb hkp
                        cases B with
                        | false =>
                          clear hkp
                          go_wp2_with fail
                          go_roundw
                          case rel => exact ⟨q + 1, by omega, by go_num, hP⟩
                          case measure => simp [intOf]; omega
                        | true =>
                          have hb := (hkp rfl).1
                          clear hkp
                          have pb := hP.out.badc hlq hb
                          have pn := next_c hP.out.l.h1 hP.out.l.ok (q : Int)
                          generalize next m3 (q : Int) = nx at pn
                          have pp := hP.out.prog hb nx ⟨#[]⟩
                          replace hb := Lib.hid hb
                          replace pp := Lib.hid pp
                          go_wp2_with fail
                          refine pb.mono ?_
                          rintro e w' ⟨rfl, rfl⟩
                          go_wp2_with fail
                          refine pn.mono ?_
                          rintro e w' ⟨rfl, rfl⟩
                          go_wp2_with fail
                          refine pp.out.mono ?_
                          rintro e w7 ⟨f, hf, rfl, hP⟩
                          have pe := hP.er (by omega) hb.out
                          replace hP := Lib.hid hP
                          replace pe := Lib.hid pe
                          clear pp pn pb fb
                          go_wp2_with fail
                          refine pe.out.mono ?_
                          rintro e w8 ⟨f2, hf2, rfl, hP⟩
                          replace hP := Lib.hid hP
                          clear pe
                          go_wp2_with fail
                          go_roundw
                          case rel => exact ⟨q + 1, by omega, by go_num, hP⟩
                          case measure => simp [intOf]; omega
                  · obtain rfl : q = 4 := by omega
                    go_wp2_with fail
                    go_roundw
                    case rel => exact ⟨j + 1, false, by omega, by go_num, rfl, _, _, _, hP⟩
                    case measure => simp [intOf]; omega
              · skip
                have hto := fun e W' => hP.out.told (W' := W') (e := e) (z2 j).1 (z2 j).2.1 (z2 j).2.2.1 (z2 j).2.2.2 d2 (fun x => ⟨x, h4⟩)
                clear hx hc2
                generalize Both.act m2 (z2 j).1 (z2 j).2.1 (z2 j).2.2.1 (z2 j).2.2.2 = m3 at hbo hto
                generalize Both.cellsA (z2 j).1 (z2 j).2.1 (z2 j).2.2.1 (z2 j).2.2.2 = cs at ha hbo
                generalize (z2 j).1 = kk at h4 hx0
                replace hbo := Lib.hid hbo
                replace hto := Lib.hid hto
                go_wp2_with (refine Calm.wpList_val rfl (Calm.run_op_load rfl rfl ha) ?_)
                refine hbo.out.mono ?_
                rintro e w' hh
                obtain ⟨oc', or', hP'⟩ := hto.out _ _ hh
                obtain ⟨rfl, _⟩ := hh
                replace hP := Lib.hid hP'
                clear hbo hto ha hP' hx0
                go_wp2_with fail
                go_loopw [18] (fun i W4 => ∃ q : Nat, q ≤ 4 ∧ i = .int .i64 q ∧ Hid (P3 w W c r (k + j + 1) gb gh m d2 oc' or' m3 W4)) (fun i _ => 4 - (intOf i).toNat)
                case atStart => exact ⟨0, by omega, rfl, hP⟩
                case round =>
                  clear hP
                  obtain ⟨q, hq, rfl, hP⟩ := hrel
                  by_cases hlq : q < 4
                  · have hq4 : (q : Int) < 4 := by omega
                    go_wp2_with fail
                    go_loopw [19] (fun i W5 => ∃ p : Nat, p ≤ 4 ∧ i = .int .i64 p ∧ Hid (P3 w W c r (k + j + 1) gb gh m d2 oc' or' m3 W5)) (fun i _ => 4 - (intOf i).toNat)
                    case atStart => exact ⟨0, by omega, rfl, hP⟩
                    case round =>
                      clear hP
                      obtain ⟨p, hp, rfl, hP⟩ := hrel
                      by_cases hlp : p < 4
                      · have hS := fun x => hP.out.same (q := q) x (p : Int)
                        have pr := read_c hP.out.l.h1 hP.out.l.ok (q : Int) (p : Int)
                        have fb : wr.cell? ⟨gb, q, none⟩ = some (.bool (m.blk q).bad) := (World.cell?_of_block (w := W) hP.out.eb).trans (hF.out.fb q hlq)
                        have fh : wr.cell? ⟨gh, 4 * q + p, none⟩ = some (.string (readAt m (q : Int) (p : Int)).1) := (World.cell?_of_block (w := W) hP.out.eh).trans (hF.out.fh q p hlq hlp)
                        generalize (m.blk q).bad = B at hS fb
                        cases B with
                        | true =>
                          rw [hS (Or.inl rfl)] at pr
                          generalize (readAt m (q : Int) (p : Int)).1 = t at pr fh
                          generalize (readAt m3 (q : Int) (p : Int)).2 = tk at pr
                          clear hS
                          go_wp2_with fail
                          refine pr.mono ?_
                          rintro e w' ⟨rfl, rfl⟩
                          clear pr
                          go_wp2_with fail
                          go_roundw
                          case rel => exact ⟨p + 1, by omega, by go_num, hP⟩
                          case measure => simp [intOf]; omega
                        | false =>
                          cases d2 with
                          | true =>
                            rw [hS (Or.inr rfl)] at pr
                            generalize (readAt m (q : Int) (p : Int)).1 = t at pr fh
                            generalize (readAt m3 (q : Int) (p : Int)).2 = tk at pr
                            clear hS
                            go_wp2_with fail
                            refine pr.mono ?_
                            rintro e w' ⟨rfl, rfl⟩
                            clear pr
                            go_wp2_with fail
                            go_roundw
                            case rel => exact ⟨p + 1, by omega, by go_num, hP⟩
                            case measure => simp [intOf]; omega
                          | false =>
                            generalize (readAt m (q : Int) (p : Int)).1 = t at fh
                            generalize (readAt m3 (q : Int) (p : Int)).1 = t2 at pr
                            generalize (readAt m3 (q : Int) (p : Int)).2 = tk at pr
                            clear hS
                            go_wp2_with fail
                            refine pr.mono ?_
                            rintro e w' ⟨rfl, rfl⟩
                            clear pr
                            go_wp2_with fail
                            go_roundw
                            case rel => exact ⟨p + 1, by omega, by go_num, hP⟩
                            case measure => simp [intOf]; omega
                      · obtain rfl : p = 4 := by omega
                        have fb : wr.cell? ⟨gb, q, none⟩ = some (.bool (m.blk q).bad) := (World.cell?_of_block (w := W) hP.out.eb).trans (hF.out.fb q hlq)
                        have hkp := hP.out.keep q
                        generalize (m.blk q).bad = B at fb hkp
                        cases B with
                        | false =>
                          clear hkp
                          go_wp2_with fail
                          go_roundw
                          case rel => exact ⟨q + 1, by omega, by go_num, hP⟩
                          case measure => simp [intOf]; omega
                        | true =>
                          have hb := (hkp rfl).1
                          clear hkp
                          have pb := hP.out.badc hlq hb
                          have pn := next_c hP.out.l.h1 hP.out.l.ok (q : Int)
                          generalize next m3 (q : Int) = nx at pn
                          have pp := hP.out.prog hb nx ⟨#[]⟩
                          replace hb := Lib.hid hb
                          replace pp := Lib.hid pp
                          go_wp2_with fail
                          refine pb.mono ?_
                          rintro e w' ⟨rfl, rfl⟩
                          go_wp2_with fail
                          refine pn.mono ?_
                          rintro e w' ⟨rfl, rfl⟩
                          go_wp2_with fail
                          refine pp.out.mono ?_
                          rintro e w7 ⟨f, hf, rfl, hP⟩
                          have pe := hP.er (by omega) hb.out
                          replace hP := Lib.hid hP
                          replace pe := Lib.hid pe
                          clear pp pn pb fb
                          go_wp2_with fail
                          refine pe.out.mono ?_
                          rintro e w8 ⟨f2, hf2, rfl, hP⟩
                          replace hP := Lib.hid hP
                          clear pe
                          go_wp2_with fail
                          go_roundw
                          case rel => exact ⟨q + 1, by omega, by go_num, hP⟩
                          case measure => simp [intOf]; omega
                  · obtain rfl : q = 4 := by omega
                    go_wp2_with fail
                    go_roundw
                    case rel => exact ⟨j + 1, d2, by omega, by go_num, rfl, _, _, _, hP⟩
                    case measure => simp [intOf]; omega
            · obtain rfl : j = len2 := by omega
              go_wp2_with fail
              go_ret
              exact ⟨rfl, hP.out.l.b⟩
end Go.Proofs.Ytfjnjhlmmdeilaa.BadW
