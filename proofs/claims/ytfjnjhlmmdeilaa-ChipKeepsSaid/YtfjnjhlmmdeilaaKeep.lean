/- The walk of ChipKeeps. -/
import Derived.Test.YtfjnjhlmmdeilaaBadW
import Derived.Test.YtfjnjhlmmdeilaaKeepM
set_option linter.unusedVariables false
namespace Go.Proofs.Ytfjnjhlmmdeilaa.Keep
open Go.RowKit Go.Proofs.Ytfjnjhlmmdeilaa.ChipM Go.Proofs.Ytfjnjhlmmdeilaa.ChipA Go.Proofs.Ytfjnjhlmmdeilaa.RefA Go.Proofs.Ytfjnjhlmmdeilaa.ChipC Go.Proofs.Ytfjnjhlmmdeilaa.KeepM

/-- Both chips, at a round's head. -/
structure LK (w : World) (c r k n p : Nat) (oc or : Nat → Prop) (m : Chp) (W : World) : Prop where
  h1 : ChipAt oc W c m
  h2 : RefAt or W r m
  hd : ∀ j, oc j → ¬ or j
  ho : ∀ j, oc j → w.heap.size ≤ j
  hr : ∀ j, or j → w.heap.size ≤ j
  ok : Ok m k
  n0 : m.n = n
  t : TextOk m
  b : Below w.heap.size w W
/-- What a page is marked with. -/
def mark (q : ByteArray × Bool) : ByteArray := if q.2 = true then ⟨#[61]⟩ ++ q.1 else q.1
def xsW (m : Chp) (p : Nat) (n : Nat) : List Value := (List.range n).map fun (i : Nat) => .string (mark (readAt m ((i / p : Nat) : Int) ((i % p : Nat) : Int)))
theorem xsW_succ (m : Chp) (p n : Nat) : xsW m p n ++ [.string (mark (readAt m ((n / p : Nat) : Int) ((n % p : Nat) : Int)))] = xsW m p (n + 1) := by unfold xsW; rw [List.range_succ, List.map_append]; rfl
structure RK (m : Chp) (p : Nat) (W0 : World) (n : Nat) (v : Value) (W : World) : Prop where
  b : Below W0.heap.size W0 W
  r : W.ownsRow W0.heap.size 9 1 v n (xsW m p n)
section
variable {m : Chp} {W0 W W' : World} {n p : Nat} {v v' : Value}
theorem RK.drewN (h : RK m p W0 n v W) (k : Nat) : RK m p W0 n v (W.drewN k) := ⟨below_drewN h.b k, RefN.ownsRow_same h.r fun _ _ => rfl⟩
theorem RK.add (h : RK m p W0 n v W) {o : Obj} {s : ByteArray} (hs : s = mark (readAt m ((n / p : Nat) : Int) ((n % p : Nat) : Int))) (hr : W'.ownsRow W0.heap.size 9 1 v' (n + 1) (xsW m p n ++ [.string s])) (hg : (W.alloc o).grownBy W' v.ownBlock) : RK m p W0 (n + 1) v' W' where
  b := (h.b.alloc h.b.size o).grown hg (Nat.le_trans h.b.size (Foot.alloc (fun _ => True) W o).size) fun k hk => (BadW.row_lt h.r k hk).1
  r := by rw [← xsW_succ, ← hs]; exact hr
end
theorem textOk_new (n p d : Nat) : TextOk (new n p d) := fun b t ht => by cases ht
theorem LK.first {w w1 w2 w3 : World} {n p d : Nat} {v : Value} {pg : Nat → Nat} (hs : sizes n p d = true) (hb : Below w.heap.size w w1)
    (hc : ChipAt (fun k => k = w1.heap.size ∨ k = w1.heap.size + 1) w2 (w1.heap.size + 1) (new n p d)) (hf : Below w1.heap.size w1 w2) (hn : RefN.NW w2 p d n v v pg w3) :
    ∃ oc or, LK w (w1.heap.size + 1) w2.heap.size 0 n p oc or (new n p d) w3 := by
  have hz : 2 ≤ n ∧ n ≤ 64 := by unfold sizes within at hs; simp at hs; omega
  have hr := hn.refat hz.2 (by omega)
  refine ⟨_, _, ChipAt.below hc hn.b, hr, fun j h1 h2 => ?_, fun j h1 => ?_, fun j h1 => ?_, ok_new hs, rfl, textOk_new n p d, ?_⟩
  · have := hc.lt j h1
    omega
  · have := hb.size
    omega
  · have := hb.size
    have := hf.size
    omega
  · exact (hb.trans (hf.mono hb.size)).trans (hn.b.mono (Nat.le_trans hb.size hf.size))
theorem cell_fresh (W : World) (n : Nat) (v : Value) (t : TypeId) : ((W.drewN n).alloc (.cells #[v] t)).cell? ⟨W.heap.size, 0, none⟩ = some v := by
  rw [cell_of_row _ _ _ #[v] t (0, 0) (by show ((W.drewN n).heap.push _)[(W.drewN n).heap.size]? = _; simp)]
  rfl
theorem quiet_two {P : Program} {f : FuncId} {args : Array Value} {w : World} {k n : Nat} {v : Value}
    (h : Calls P f args (w.drewN (k + n)) fun e w' => e = .returned v ∧ w' = w.drewN (k + n)) : Calls P f args (w.drewN (k + n)) fun e w'' => e = .returned v ∧ ∃ m, w'' = w.drewN (k + m) :=
  h.mono fun _ _ ⟨he, hm⟩ => ⟨he, n, hm⟩
theorem tdiv_nat (k p : Nat) : Int.tdiv (k : Int) (p : Int) = ((k / p : Nat) : Int) := rfl
theorem tmod_nat (k p : Nat) : Int.tmod (k : Int) (p : Int) = ((k % p : Nat) : Int) := rfl
theorem readAt_none {m : Chp} {b q : Int} (h : (readAt m b q).2 = false) : (readAt m b q).1 = ⟨#[]⟩ := by
  unfold readAt at h ⊢
  split
  · rename_i hc
    rw [if_pos hc] at h
    cases h
  · rfl
theorem isEmpty_false {s : ByteArray} (h : s ≠ ⟨#[]⟩) : s.toList.isEmpty = false := by
  rw [ByteArray.toList_eq]
  cases hl : s.data.toList with
  | nil =>
    exfalso
    apply h
    have : s.data = #[] := Array.toList_eq_nil_iff.1 hl
    rw [← this]
  | cons _ _ => rfl
theorem eq_ne (t : ByteArray) : (⟨#[61]⟩ : ByteArray) ++ t ≠ ⟨#[]⟩ := by
  intro h
  have := congrArg ByteArray.size h
  rw [ByteArray.size_append] at this
  have h1 : (⟨#[61]⟩ : ByteArray).size = 1 := rfl
  have h2 : (⟨#[]⟩ : ByteArray).size = 0 := rfl
  omega
/-- A page that is there after an act. -/
theorem now_there {m : Chp} {K b q : Int} {s tx : ByteArray} {j e : Nat} (hj : j < m.n) (h : readAt (Both.act m K b q s) (j : Int) (e : Int) = (tx, true)) :
    mark (readAt m (j : Int) (e : Int)) = ⟨#[61]⟩ ++ tx ∨ (mark (readAt m (j : Int) (e : Int)) = ⟨#[]⟩ ∧ K = 0 ∧ b = (j : Int) ∧ q = next m b ∧ (e : Int) = next m b) := by
  rcases page_after m K b q s (p := e) hj with h1 | ⟨h1, h2, h3, h4, h5⟩ | ⟨_, _, h3⟩
  · left
    rw [← h1, h]
    rfl
  · right
    refine ⟨?_, h1, h2, h3, h4⟩
    unfold mark
    rw [h5, readAt_none h5]
    rfl
  · rw [h] at h3
    cases h3
/-- A page that is not there after an act. -/
theorem now_gone {m : Chp} {K b q : Int} {s tx : ByteArray} {j e : Nat} (hj : j < m.n) (h : readAt (Both.act m K b q s) (j : Int) (e : Int) = (tx, false)) :
    tx = ⟨#[]⟩ ∧ (mark (readAt m (j : Int) (e : Int)) = ⟨#[]⟩ ∨ (K = 1 ∧ b = (j : Int) ∧ mark (readAt m (j : Int) (e : Int)) ≠ ⟨#[]⟩)) := by
  have ht : tx = ⟨#[]⟩ := by
    have := readAt_none (m := Both.act m K b q s) (b := (j : Int)) (q := (e : Int)) (by rw [h])
    rw [h] at this
    exact this
  subst ht
  refine ⟨rfl, ?_⟩
  by_cases hm : mark (readAt m (j : Int) (e : Int)) = ⟨#[]⟩
  · exact Or.inl hm
  · right
    rcases page_after m K b q s (p := e) hj with h1 | ⟨_, _, _, _, h5⟩ | ⟨h1, h2, _⟩
    · exfalso
      apply hm
      rw [← h1, h]
      rfl
    · exfalso
      apply hm
      unfold mark
      rw [h5, readAt_none h5]
      rfl
    · exact ⟨h1, h2, hm⟩
theorem RK.full {m : Chp} {W0 W : World} {n p : Nat} {v : Value} (h : RK m p W0 n v W) (h0 : 0 < n) : ∃ g cap, v = .slice (some ⟨g, 0, none⟩) n cap ∧ W0.heap.size ≤ g ∧ g < W.heap.size ∧ ∀ i, i < n → W.cell? ⟨g, i, none⟩ = some (.string (mark (readAt m ((i / p : Nat) : Int) ((i % p : Nat) : Int)))) := by
  obtain ⟨g, cap, e1, b1, l1, f1⟩ := BadW.row_cell h.r h0
  refine ⟨g, cap, e1, b1, l1, fun i hi => ?_⟩
  rw [f1 i hi]
  unfold xsW
  rw [List.getElem?_map, List.getElem?_range hi]
  rfl
section
variable {w W W' : World} {c r k n p gb : Nat} {oc or : Nat → Prop} {m m' : Chp} {e : Ending}
theorem LK.below (h : LK w c r k n p oc or m W) (hb : Below W.heap.size W W') : LK w c r k n p oc or m W' :=
  ⟨h.h1.below hb, h.h2.same hb.size fun j hj => hb.block j (h.h2.lt j hj), h.hd, h.ho, h.hr, h.ok, h.n0, h.t, h.b.trans (hb.mono h.b.size)⟩
theorem LK.told (h : LK w c r k n p oc or m W) (ok : Ok m' (k + 1)) (hn : m'.n = m.n) (ht : TextOk m') (hh : Both.Done oc or W c r m' e W') : ∃ oc' or', LK w c r (k + 1) n p oc' or' m' W' ∧ W.heap.size ≤ W'.heap.size ∧ ∀ g, g < W.heap.size → ¬ oc g → ¬ or g → W'.heap[g]? = W.heap[g]? := by
  obtain ⟨_, oc', or', t⟩ := hh
  have hb := h.b
  refine ⟨oc', or', ⟨t.a, t.b, t.dis, fun j hj => (t.nc j hj).elim (h.ho j) fun x => Nat.le_trans hb.size x, fun j hj => (t.nr j hj).elim (h.hr j) fun x => Nat.le_trans hb.size x, ok, hn.trans h.n0, ht, ?_⟩, t.foot.size, fun g hg h1 h2 => t.aside hg h1 h2⟩
  exact hb.trans (t.foot.below hb.size fun j hj => hj.elim (h.ho j) (h.hr j))
/-- After the act: the row is as it was. -/
structure PK (w W2 : World) (c r k n p gb : Nat) (oc or : Nat → Prop) (m : Chp) (W : World) : Prop where
  l : LK w c r k n p oc or m W
  eb : W.heap[gb]? = W2.heap[gb]?
theorem PK.drewN {W2 : World} (h : PK w W2 c r k n p gb oc or m W) (d : Nat) : PK w W2 c r k n p gb oc or m (W.drewN d) := ⟨h.l.below (below_drewN (Below.refl _ _) d), h.eb⟩
end
attribute [local irreducible] wpQuiet
set_option maxHeartbeats 8000000 in
set_option maxRecDepth 100000 in
theorem keep_main (a : Option Addr) (len cap n p d : Nat) (z : Nat → Int × Int × Int × ByteArray) (w : World) (hl : len ≤ 60) (hs : sizes n p d = true) (hn8 : n ≤ 8) (hp8 : p ≤ 8) (hc : ∀ i, i < len → ∃ x, a = some x ∧ OpenA.Cells w x i (z i)) :
    Calls Try.prog 7 #[.int .i64 (n : Int), .int .i64 (p : Int), .int .i64 (d : Int), .slice a len cap] w fun e w' => e = .returned (.bool true) ∧ Below w.heap.size w w' := by
  have hz : (2 ≤ n ∧ n ≤ 64) ∧ (2 ≤ p ∧ p ≤ 32) ∧ (32 ≤ d ∧ d ≤ 256) := by unfold sizes within at hs; simp at hs; omega
  have hnew := new_c n p d hs
  have hrew := RefN.new_r n p d hz.1.1 hz.1.2 hz.2.1.1 hz.2.1.2 hz.2.2.1 hz.2.2.2
  have q1 : decide (60 < (len : Int)) = false := decide_eq_false (by omega)
  have q2 : decide (60 < len) = false := decide_eq_false (by omega)
  have q3 : decide (8 < (n : Int)) = false := decide_eq_false (by omega)
  have q4 : decide (8 < n) = false := decide_eq_false (by omega)
  have q5 : decide (8 < (p : Int)) = false := decide_eq_false (by omega)
  have q6 : decide (8 < p) = false := decide_eq_false (by omega)
  have hp0 : 0 < p := by omega
  have hn0 : 0 < n := by omega
  obtain ⟨is, si, sz0, sz1, sz2⟩ := info_parts BadW.infoStr
  clear hz
  go_enter Try.func7, Try.ntmps7
  go_wp2_with fail
  refine (ChipW.works_any _).mono ?_
  rintro e w1 ⟨rfl, hb1⟩
  go_wp2_with fail
  refine (hnew _).mono ?_
  rintro e w2 ⟨rfl, h2, f2⟩
  go_wp2_with fail
  refine (hrew _).mono ?_
  rintro e w3 ⟨r, v, pg, rfl, rfl, hN⟩
  obtain ⟨oc, or, hT⟩ := LK.first hs hb1 h2 f2 hN
  have hdd : (new n p d).data ≤ 256 := by unfold sizes within at hs; simp at hs; simp [new]; omega
  clear hN h2 f2 hb1 hnew hrew hs
  generalize w1.heap.size + 1 = c at hT ⊢
  generalize w2.heap.size = r at hT ⊢
  generalize new n p d = m at hT hdd
  replace hT := Lib.hid hT
  go_wp2_with fail
  clear q1 q2 q3 q4 q5 q6
  go_loopw [13] (fun i wr => ∃ k : Nat, k ≤ len ∧ i = .int .i64 k ∧ ∃ oc or m, m.data ≤ 256 ∧ LK w c r k n p oc or m wr) (fun i _ => len - (intOf i).toNat)
  case atStart => exact ⟨0, by omega, rfl, _, _, _, hdd, hT.out⟩
  case round =>
    clear hT hdd
    obtain ⟨k, hk, rfl, oc, or, m, hdd, hT⟩ := hrel
    by_cases hlk : k < len
    · obtain ⟨x, rfl, hx⟩ := hc k hlk
      have hR : RK m p wr 0 (.slice none 0 0) wr := ⟨Below.refl _ _, ⟨rfl, Or.inl ⟨rfl, rfl⟩⟩⟩
      replace hR := Lib.hid hR
      replace hT := Lib.hid hT
      have hnp : (n : Int) * (p : Int) = ((n * p : Nat) : Int) := by push_cast; rfl
      have hnp2 : n * p ≤ 64 := Nat.mul_le_mul hn8 hp8
      have hnz : 0 < n * p := Nat.mul_pos hn0 hp0
      generalize hN : n * p = N at hnp hnp2 hnz
      go_wp2_with fail
      go_loopw [15, 14] (fun i v W => ∃ i' : Nat, i' ≤ N ∧ i = .int .i64 i' ∧ Hid (RK m p wr i' v W)) (fun i _ _ => N - (intOf i).toNat)
      case atStart => exact ⟨0, by omega, rfl, hR⟩
      case round =>
        clear hR
        obtain ⟨i, hi, rfl, hR⟩ := hrel
        by_cases hli : i < N
        · have pr := fun q => read_c ((hT.out.h1.below hR.out.b).drewN q) hT.out.ok ((i / p : Nat) : Int) ((i % p : Nat) : Int)
          have hdv := tdiv_nat i p
          have hmd := tmod_nat i p
          have hp1 : ¬ (p : Int) = 0 := by omega
          have hi2 : (i : Int) < (N : Int) := by omega
          have hd0 : (0 : Int) ≤ ((i / p : Nat) : Int) := Int.natCast_nonneg _
          have hd1 : ((i / p : Nat) : Int) ≤ 64 := by have := Nat.div_le_self i p; omega
          have hm0 : (0 : Int) ≤ ((i % p : Nat) : Int) := Int.natCast_nonneg _
          have hm1 : ((i % p : Nat) : Int) ≤ 64 := by have := Nat.mod_le i p; omega
          have hts := readAt_size hT.out.t ((i / p : Nat) : Int) ((i % p : Nat) : Int)
          have hbl := fun q s v' W' => RK.add (s := s) (v' := v') (W' := W') (o := .cells #[.string s] 9) (hR.out.drewN q)
          replace hbl := Lib.hid hbl
          generalize htx : (readAt m ((i / p : Nat) : Int) ((i % p : Nat) : Int)) = tx at pr hts
          generalize hdq : ((i / p : Nat) : Int) = dq at hdv pr hd0 hd1
          generalize hmq : ((i % p : Nat) : Int) = mq at hmd pr hm0 hm1
          go_wp2_with fail
          go_quiet ((go_at_call 15; exact Calls.quiet_of_same (pr _)))
          obtain ⟨tx, tk⟩ := tx
          have hts2 : tx.size ≤ 256 := Nat.le_trans hts hdd
          clear hts
          cases tk with
          | true =>
            have hsz := hR.out.b.size
            have hown := fun q => BadW.row_alloc (hR.out.drewN q).r (.cells #[.string (⟨#[61]⟩ ++ tx)] 9)
            go_wp2_with (at_builtin; refine wpList_append_own _ rfl _ _ 32 rfl _ 9 is (.string ⟨#[]⟩) 1 16 Try.underlying32 si sz0 sz1 sz2 rfl (by decide) _ _ _ rfl (hown _) ⟨_, 0, none⟩ 1 1 [.string (⟨#[61]⟩ ++ tx)] rfl rfl ?c1 ?c2 ?c3 ?c4 ?c5 ?_)
            case c1 =>
              intro j u hj
              have hj0 : j = 0 := by
                have := (List.getElem?_eq_some_iff.1 hj).1
                simp at this
                exact this
              subst hj0
              simp only [List.getElem?_cons_zero, Option.some.injEq] at hj
              subst hj
              exact cell_fresh _ _ _ _
            case c2 =>
              rfl
            case c3 => unfold maxLen; omega
            case c4 => omega
            case c5 => (try simp); omega
            intro v' w5 hown1 hgrow _
            have hR2 := hbl.out _ _ _ _ (by rw [htx]; rfl) hown1 hgrow
            replace hR2 := Lib.hid hR2
            clear hbl hown hown1 hgrow hR pr hsz
            go_wp2_with fail
            go_roundw
            case rel => exact ⟨i + 1, by omega, by go_num, hR2⟩
            case measure => simp [intOf]; omega
          | false =>
            have hsz := hR.out.b.size
            have hown := fun q => BadW.row_alloc (hR.out.drewN q).r (.cells #[.string tx] 9)
            go_wp2_with (at_builtin; refine wpList_append_own _ rfl _ _ 32 rfl _ 9 is (.string ⟨#[]⟩) 1 16 Try.underlying32 si sz0 sz1 sz2 rfl (by decide) _ _ _ rfl (hown _) ⟨_, 0, none⟩ 1 1 [.string tx] rfl rfl ?c1 ?c2 ?c3 ?c4 ?c5 ?_)
            case c1 =>
              intro j u hj
              have hj0 : j = 0 := by
                have := (List.getElem?_eq_some_iff.1 hj).1
                simp at this
                exact this
              subst hj0
              simp only [List.getElem?_cons_zero, Option.some.injEq] at hj
              subst hj
              exact cell_fresh _ _ _ _
            case c2 =>
              rfl
            case c3 => unfold maxLen; omega
            case c4 => omega
            case c5 => (try simp); omega
            intro v' w5 hown1 hgrow _
            have hR2 := hbl.out _ _ _ _ (by rw [htx]; rfl) hown1 hgrow
            replace hR2 := Lib.hid hR2
            clear hbl hown hown1 hgrow hR pr hsz
            go_wp2_with fail
            go_roundw
            case rel => exact ⟨i + 1, by omega, by go_num, hR2⟩
            case measure => simp [intOf]; omega
        · obtain rfl : i = N := by omega
          have hN0 : 0 < i := by
            have := hnz
            omega
          obtain ⟨gb, cb, rfl, g1, l1, f1⟩ := hR.out.full hN0
          have hT1 := hT.out.below hR.out.b
          have hng : ¬ oc gb ∧ ¬ or gb := ⟨fun h => absurd (hT.out.h1.lt _ h) (by omega), fun h => absurd (hT.out.h2.lt _ h) (by omega)⟩
          have hlb := hT1.b
          have ha := Does.act_later hx hlb
          have hx1 : wr.cell? { block := (x.add (k * 4)).block, off := (x.add (k * 4)).off + 1 } = some (.int .i64 (z k).2.1) := (hlb.cell (World.block_lt_of_cell? _ _ hx.c1)).trans hx.c1
          have pn := next_c hT1.h1 hT1.ok (z k).2.1
          have hbo := Both.both_c hT1.h1 hT1.h2 hT1.hd hT1.ok (by omega) (z k).1 (z k).2.1 (z k).2.2.1 hx.p (z k).2.2.2
          have hto := fun e W' => hT1.told (W' := W') (e := e) (Both.act_ok hT1.ok (z k).1 (z k).2.1 (z k).2.2.1 (z k).2.2.2) (BadM.act_n m (z k).1 (z k).2.1 (z k).2.2.1 (z k).2.2.2) (act_textOk hT1.t (z k).1 (z k).2.1 (z k).2.2.1 (z k).2.2.2)
          have hmn := hT1.n0
          have hyes := fun jb e tx => now_there (m := m) (K := (z k).1) (b := (z k).2.1) (q := (z k).2.2.1) (s := (z k).2.2.2) (j := jb) (e := e) (tx := tx)
          have hno := fun jb e tx => now_gone (m := m) (K := (z k).1) (b := (z k).2.1) (q := (z k).2.2.1) (s := (z k).2.2.2) (j := jb) (e := e) (tx := tx)
          have hm2 : (Both.act m (z k).1 (z k).2.1 (z k).2.2.1 (z k).2.2.2).data ≤ 256 := by rw [act_data]; exact hdd
          generalize hm1 : Both.act m (z k).1 (z k).2.1 (z k).2.2.1 (z k).2.2.2 = m1 at hbo hto hyes hno hm2
          generalize Both.cellsA (z k).1 (z k).2.1 (z k).2.2.1 (z k).2.2.2 = cs at ha hbo
          generalize hnx : next m (z k).2.1 = nx at pn hyes hno
          have hT0 := hT
          clear hT hT1 hR hlb hm1 hdd
          replace hbo := Lib.hid hbo
          replace hto := Lib.hid hto
          replace hyes := Lib.hid hyes
          replace hno := Lib.hid hno
          replace hx := Lib.hid hx
          replace f1 := Lib.hid f1
          go_wp2_with fail
          refine pn.mono ?_
          rintro e wq ⟨rfl, rfl⟩
          clear pn hx1
          go_wp2_with (refine Calm.wpList_val rfl (Calm.run_op_load rfl rfl ha) ?_)
          refine hbo.out.mono ?_
          rintro e w' hh
          obtain ⟨oc', or', hT, hsz, hsame⟩ := hto.out _ _ hh
          obtain ⟨rfl, _⟩ := hh
          have hP : PK w wq c r (k + 1) n p gb oc' or' m1 w' := ⟨hT, hsame gb l1 hng.1 hng.2⟩
          replace hP := Lib.hid hP
          clear hT hsz hsame hbo hto ha hng hT0
          go_wp2_with fail
          go_loopw [19] (fun j W => ∃ j' : Nat, j' ≤ i ∧ j = .int .i64 j' ∧ Hid (PK w wq c r (k + 1) n p gb oc' or' m1 W)) (fun j _ => i - (intOf j).toNat)
          case atStart => exact ⟨0, by omega, rfl, hP⟩
          case round =>
            clear hP
            obtain ⟨j, hj, rfl, hP⟩ := hrel
            by_cases hlj : j < i
            · have hbw := hP.out.l.b
              have hx0 : wr.cell? (x.add (k * 4)) = some (.int .i64 (z k).1) := (hbw.cell (World.block_lt_of_cell? _ _ hx.out.c0)).trans hx.out.c0
              have hx1 : wr.cell? { block := (x.add (k * 4)).block, off := (x.add (k * 4)).off + 1 } = some (.int .i64 (z k).2.1) := (hbw.cell (World.block_lt_of_cell? _ _ hx.out.c1)).trans hx.out.c1
              have hx2 : wr.cell? { block := (x.add (k * 4)).block, off := (x.add (k * 4)).off + 2 } = some (.int .i64 (z k).2.2.1) := (hbw.cell (World.block_lt_of_cell? _ _ hx.out.c2)).trans hx.out.c2
              have fb : wr.cell? ⟨gb, j, none⟩ = some (.string (mark (readAt m ((j / p : Nat) : Int) ((j % p : Nat) : Int)))) := (World.cell?_of_block hP.out.eb).trans (f1.out j hlj)
              have hjn : j / p < n := Nat.div_lt_of_lt_mul (by rw [Nat.mul_comm, hN]; exact hlj)
              have pr := fun q => read_c (hP.out.l.h1.drewN q) hP.out.l.ok ((j / p : Nat) : Int) ((j % p : Nat) : Int)
              have pn := fun q => next_c (hP.out.l.h1.drewN q) hP.out.l.ok ((j / p : Nat) : Int)
              have hon := ok_next (m := m1) (j := j / p) (p := j % p) (by rw [hP.out.l.n0]; exact hjn)
              have hts := readAt_size hP.out.l.t ((j / p : Nat) : Int) ((j % p : Nat) : Int)
              have hye := fun tx => hyes.out (j / p) (j % p) tx (by rw [hmn]; exact hjn)
              have hne := fun tx => hno.out (j / p) (j % p) tx (by rw [hmn]; exact hjn)
              have hdv := tdiv_nat j p
              have hmd := tmod_nat j p
              have hp1 : ¬ (p : Int) = 0 := by omega
              have hp2 : ¬ p = 0 := by omega
              have hi2 : (j : Int) < (i : Int) := by omega
              have hd0 : (0 : Int) ≤ ((j / p : Nat) : Int) := Int.natCast_nonneg _
              have hd1 : ((j / p : Nat) : Int) ≤ 64 := by have := Nat.div_le_self j p; omega
              have hm0 : (0 : Int) ≤ ((j % p : Nat) : Int) := Int.natCast_nonneg _
              have hm3 : ((j % p : Nat) : Int) ≤ 64 := by have := Nat.mod_le j p; omega
              generalize mark (readAt m ((j / p : Nat) : Int) ((j % p : Nat) : Int)) = s0 at fb hye hne
              generalize readAt m1 ((j / p : Nat) : Int) ((j % p : Nat) : Int) = t1 at pr hts hon hye hne
              generalize next m1 ((j / p : Nat) : Int) = nxt at pn hon
              generalize ((j / p : Nat) : Int) = dq at hdv pr pn hd0 hd1 hye hne
              generalize ((j % p : Nat) : Int) = mq at hmd pr hm0 hm3 hye hne hon
              have hwd : IntKind.i64.wrap dq = dq := by rw [IntKind.wrap_i64]; omega
              clear hjn hbw
              generalize (z k).1 = zk at hx0 hye hne
              generalize (z k).2.1 = zb at hx1 hye hne
              generalize (z k).2.2.1 = zp at hx2 hye hne
              obtain ⟨tx, tk⟩ := t1
              have hts2 : tx.size ≤ 256 := Nat.le_trans hts hm2
              clear hts
              cases tk with
              | true =>
                have hlt : mq < nxt := of_decide_eq_true hon.symm
                have hdq : decide (nxt ≤ mq) = false := decide_eq_false (by omega)
                replace hdq := Lib.hid hdq
                have hc := hye tx rfl
                clear hye hne hon
                rcases hc with rfl | ⟨rfl, rfl, rfl, rfl, rfl⟩
                · go_wp2_with fail
                  go_quiet ((go_at_call 15; exact Calls.quiet_of_same (pr _)))
                  go_wp2_with fail
                  go_quiet (fail)
                  go_wp2_with fail
                  generalize hZ : ((⟨#[61]⟩ : ByteArray) ++ tx) = zz
                  refine wp_region_quiet_lit (by kernel_rfl) (by kernel_rfl) ?_
                  iterate 11 (quiet_step ((go_at_call 12; exact quiet_two (pn _))))
                  rw [hdq.out]
                  repeat (quiet_step ((go_at_call 12; exact quiet_two (pn _))))
                  refine wpQuiet_nil ?_
                  intro _ hw'
                  obtain ⟨nq2, hw2⟩ := hw'
                  subst hw2
                  go_wp2_with fail
                  go_roundw
                  case rel => exact ⟨j + 1, by omega, by go_num, Lib.hid (hP.out.drewN _)⟩
                  case measure => simp [intOf]; omega
                · have he1 := isEmpty_false (eq_ne tx)
                  go_wp2_with fail
                  go_quiet ((go_at_call 15; exact Calls.quiet_of_same (pr _)))
                  go_wp2_with fail
                  go_quiet (fail)
                  go_wp2_with fail
                  generalize hZ : ((⟨#[61]⟩ : ByteArray) ++ tx) = zz
                  refine wp_region_quiet_lit (by kernel_rfl) (by kernel_rfl) ?_
                  iterate 11 (quiet_step ((go_at_call 12; exact quiet_two (pn _))))
                  rw [hdq.out]
                  repeat (quiet_step ((go_at_call 12; exact quiet_two (pn _))))
                  refine wpQuiet_nil ?_
                  intro _ hw'
                  obtain ⟨nq2, hw2⟩ := hw'
                  subst hw2
                  go_wp2_with fail
                  go_roundw
                  case rel => exact ⟨j + 1, by omega, by go_num, Lib.hid (hP.out.drewN _)⟩
                  case measure => simp [intOf]; omega
              | false =>
                have hlt : ¬ mq < nxt := of_decide_eq_false hon.symm
                have hdq : decide (mq < nxt) = false := decide_eq_false hlt
                replace hdq := Lib.hid hdq
                obtain ⟨rfl, hc⟩ := hne tx rfl
                clear hye hne hon
                rcases hc with rfl | ⟨rfl, rfl, hc⟩
                · go_wp2_with fail
                  go_quiet ((go_at_call 15; exact Calls.quiet_of_same (pr _)))
                  go_wp2_with fail
                  go_quiet (fail)
                  go_wp2_with fail
                  refine wp_region_quiet_lit (by kernel_rfl) (by kernel_rfl) ?_
                  iterate 25 (quiet_step ((go_at_call 12; exact quiet_two (pn _))))
                  rw [hdq.out]
                  repeat (quiet_step ((go_at_call 12; exact quiet_two (pn _))))
                  refine wpQuiet_nil ?_
                  intro _ hw'
                  obtain ⟨nq2, hw2⟩ := hw'
                  subst hw2
                  go_wp2_with fail
                  go_roundw
                  case rel => exact ⟨j + 1, by omega, by go_num, Lib.hid (hP.out.drewN _)⟩
                  case measure => simp [intOf]; omega
                · have he1 := isEmpty_false hc
                  go_wp2_with fail
                  go_quiet ((go_at_call 15; exact Calls.quiet_of_same (pr _)))
                  go_wp2_with fail
                  go_quiet (fail)
                  go_wp2_with fail
                  refine wp_region_quiet_lit (by kernel_rfl) (by kernel_rfl) ?_
                  iterate 25 (quiet_step ((go_at_call 12; exact quiet_two (pn _))))
                  rw [hdq.out]
                  repeat (quiet_step ((go_at_call 12; exact quiet_two (pn _))))
                  refine wpQuiet_nil ?_
                  intro _ hw'
                  obtain ⟨nq2, hw2⟩ := hw'
                  subst hw2
                  go_wp2_with fail
                  go_roundw
                  case rel => exact ⟨j + 1, by omega, by go_num, Lib.hid (hP.out.drewN _)⟩
                  case measure => simp [intOf]; omega
            · obtain rfl : j = i := by omega
              go_wp2_with fail
              go_roundw
              case rel => exact ⟨k + 1, by omega, by go_num, _, _, _, hm2, hP.out.l⟩
              case measure => simp [intOf]; omega
    · obtain rfl : k = len := by omega
      clear hc
      replace hT := Lib.hid hT
      go_wp2_with fail
      go_ret
      exact ⟨rfl, hT.out.b⟩
end Go.Proofs.Ytfjnjhlmmdeilaa.Keep
