/- The walks of page.read and page.Get. -/
import Derived.Test.YtobkeakbahkglaaPageP
import Derived.Deep.WholeRow
import Derived.Deep.MidRow
import Derived.Laws.CopyRow
import Derived.Laws.CopyOwn
set_option linter.unusedVariables false
namespace Go.Proofs.Ytobkeakbahkglaa.PageG
open Go.RowKit Go.Proofs.Ytobkeakbahkglaa.Fn Go.Proofs.YtobkeakbahkglaaW.PrintWords Go.Proofs.YtobkeakbahkglaaW.PrintLast Go.Proofs.Ytobkeakbahkglaa.WireM Go.Proofs.Ytobkeakbahkglaa.WireP Go.Proofs.Ytobkeakbahkglaa.PageM Go.Proofs.Ytobkeakbahkglaa.PageP

/-- What read works on: a number and a page, side by side; the row of the places. -/
structure RD (w : World) (kb pb gb : Nat) (y0 y1 y2 y3 : Int) (W : World) : Prop where
  hk : W.heap[kb]? = some (.cells #[.int .i64 y0] 3 (0, 0))
  hp : W.heap[pb]? = some (.cells #[.int .i64 0, .int .i64 y1, .int .i64 y2, .int .i64 y3, .string ⟨#[]⟩] 24 (0, 0))
  hg : W.heap[gb]? = some (.cells #[.pointer (some ⟨kb, 0, none⟩), .pointer (some ⟨pb, 1, none⟩), .pointer (some ⟨pb, 2, none⟩), .pointer (some ⟨pb, 3, none⟩)] 58 (0, 0))
  nk : w.heap.size ≤ kb
  np : w.heap.size ≤ pb
  kp : kb ≠ pb
  kg : kb ≠ gb
  pg : pb ≠ gb
  b : Below w.heap.size w W
section
variable {w W W' : World} {kb pb gb : Nat} {y0 y1 y2 y3 : Int}
theorem RD.below (h : RD w kb pb gb y0 y1 y2 y3 W) (hb : Below W.heap.size W W') : RD w kb pb gb y0 y1 y2 y3 W' :=
  ⟨(hb.block kb (Array.getElem?_eq_some_iff.1 h.hk).1).trans h.hk, (hb.block pb (Array.getElem?_eq_some_iff.1 h.hp).1).trans h.hp, (hb.block gb (Array.getElem?_eq_some_iff.1 h.hg).1).trans h.hg, h.nk, h.np, h.kp, h.kg, h.pg, h.b.trans (hb.mono h.b.size)⟩
theorem RD.sk (h : RD w kb pb gb y0 y1 y2 y3 W) (x : Int) : RD w kb pb gb x y1 y2 y3 (W.setCell ⟨kb, 0, none⟩ (.int .i64 x)) :=
  ⟨by rw [heap_setCell_same _ _ _ _ _ _ h.hk]; rfl, (heap_setCell_other _ _ _ _ h.kp.symm).trans h.hp, (heap_setCell_other _ _ _ _ h.kg.symm).trans h.hg, h.nk, h.np, h.kp, h.kg, h.pg, h.b.setCell h.nk _⟩
theorem RD.s1 (h : RD w kb pb gb y0 y1 y2 y3 W) (x : Int) : RD w kb pb gb y0 x y2 y3 (W.setCell ⟨pb, 1, none⟩ (.int .i64 x)) :=
  ⟨(heap_setCell_other _ _ _ _ h.kp).trans h.hk, by rw [heap_setCell_same _ _ _ _ _ _ h.hp]; rfl, (heap_setCell_other _ _ _ _ h.pg.symm).trans h.hg, h.nk, h.np, h.kp, h.kg, h.pg, h.b.setCell h.np _⟩
theorem RD.s2 (h : RD w kb pb gb y0 y1 y2 y3 W) (x : Int) : RD w kb pb gb y0 y1 x y3 (W.setCell ⟨pb, 2, none⟩ (.int .i64 x)) :=
  ⟨(heap_setCell_other _ _ _ _ h.kp).trans h.hk, by rw [heap_setCell_same _ _ _ _ _ _ h.hp]; rfl, (heap_setCell_other _ _ _ _ h.pg.symm).trans h.hg, h.nk, h.np, h.kp, h.kg, h.pg, h.b.setCell h.np _⟩
theorem RD.s3 (h : RD w kb pb gb y0 y1 y2 y3 W) (x : Int) : RD w kb pb gb y0 y1 y2 x (W.setCell ⟨pb, 3, none⟩ (.int .i64 x)) :=
  ⟨(heap_setCell_other _ _ _ _ h.kp).trans h.hk, by rw [heap_setCell_same _ _ _ _ _ _ h.hp]; rfl, (heap_setCell_other _ _ _ _ h.pg.symm).trans h.hg, h.nk, h.np, h.kp, h.kg, h.pg, h.b.setCell h.np _⟩
end
/-- So many numbers have been read. -/
def chain (s : ByteArray) (y0 y1 y2 y3 : Int) (r : ByteArray) : Nat → Prop
  | 0 => r = s ∧ y0 = 0 ∧ y1 = 0 ∧ y2 = 0 ∧ y3 = 0
  | 1 => numT (getNum (L s)) = (y0, r, true) ∧ y1 = 0 ∧ y2 = 0 ∧ y3 = 0
  | 2 => (∃ r1, numT (getNum (L s)) = (y0, r1, true) ∧ numT (getNum (L r1)) = (y1, r, true)) ∧ y2 = 0 ∧ y3 = 0
  | 3 => (∃ r1 r2, numT (getNum (L s)) = (y0, r1, true) ∧ numT (getNum (L r1)) = (y1, r2, true) ∧ numT (getNum (L r2)) = (y2, r, true)) ∧ y3 = 0
  | _ => ∃ r1 r2 r3, numT (getNum (L s)) = (y0, r1, true) ∧ numT (getNum (L r1)) = (y1, r2, true) ∧ numT (getNum (L r2)) = (y2, r3, true) ∧ numT (getNum (L r3)) = (y3, r, true)
theorem numT_some {o : Option (Nat × List UInt8)} {y : Int} {r : ByteArray} (h : numT o = (y, r, true)) : ∃ a : Nat, y = (a : Int) ∧ o = some (a, L r) := by
  unfold numT at h
  split at h
  · simp only [Prod.mk.injEq] at h
    obtain ⟨rfl, rfl, _⟩ := h
    exact ⟨_, rfl, rfl⟩
  · simp at h
theorem numT_none {o : Option (Nat × List UInt8)} {y : Int} {r : ByteArray} (h : numT o = (y, r, false)) : o = none := by
  unfold numT at h
  split at h
  · simp at h
  · rfl
theorem numT_size {s r : ByteArray} {y : Int} {b : Bool} (h : numT (getNum (L s)) = (y, r, b)) (hz : s.size ≤ 9223372036854775807) : r.size ≤ 9223372036854775807 := by
  cases b with
  | false =>
    unfold numT at h
    split at h
    · simp at h
    · simp only [Prod.mk.injEq] at h
      rw [← h.2.1]
      exact Nat.zero_le _
  | true =>
    obtain ⟨a, _, e⟩ := numT_some h
    have := congrArg List.length (getNum_some e).1
    rw [List.length_append, ← size_L, ← size_L] at this
    omega
theorem chain_step {s r r' : ByteArray} {y0 y1 y2 y3 x : Int} (hx : numT (getNum (L r)) = (x, r', true)) : (chain s y0 y1 y2 y3 r 0 → chain s x y1 y2 y3 r' 1) ∧ (chain s y0 y1 y2 y3 r 1 → chain s y0 x y2 y3 r' 2) ∧ (chain s y0 y1 y2 y3 r 2 → chain s y0 y1 x y3 r' 3) ∧ (chain s y0 y1 y2 y3 r 3 → chain s y0 y1 y2 x r' 4) := by
  refine ⟨?_, ?_, ?_, ?_⟩
  · rintro ⟨rfl, _, h1, h2, h3⟩
    exact ⟨hx, h1, h2, h3⟩
  · rintro ⟨h0, _, h2, h3⟩
    exact ⟨⟨_, h0, hx⟩, h2, h3⟩
  · rintro ⟨⟨r1, h0, h1⟩, _, h3⟩
    exact ⟨⟨_, _, h0, h1, hx⟩, h3⟩
  · rintro ⟨⟨r1, r2, h0, h1, h2⟩, _⟩
    exact ⟨_, _, _, h0, h1, h2, hx⟩
theorem chain_fail {s r r' : ByteArray} {y0 y1 y2 y3 x : Int} {i : Nat} (hi : i < 4) (h : chain s y0 y1 y2 y3 r i) (hx : numT (getNum (L r)) = (x, r', false)) : inside (L s) = noPage := by
  have hn := numT_none hx
  unfold inside
  have hi4 : i = 0 ∨ i = 1 ∨ i = 2 ∨ i = 3 := by omega
  rcases hi4 with rfl | rfl | rfl | rfl
  · obtain ⟨rfl, _⟩ := h
    rw [hn]
  · obtain ⟨h0, _⟩ := h
    obtain ⟨a, _, e⟩ := numT_some h0
    rw [e]
    dsimp only
    rw [hn]
  · obtain ⟨⟨r1, h0, h1⟩, _⟩ := h
    obtain ⟨a, _, e⟩ := numT_some h0
    obtain ⟨b, _, e1⟩ := numT_some h1
    rw [e]
    dsimp only
    rw [e1]
    dsimp only
    rw [hn]
  · obtain ⟨⟨r1, r2, h0, h1, h2⟩, _⟩ := h
    obtain ⟨a, _, e⟩ := numT_some h0
    obtain ⟨b, _, e1⟩ := numT_some h1
    obtain ⟨c, _, e2⟩ := numT_some h2
    rw [e]
    dsimp only
    rw [e1]
    dsimp only
    rw [e2]
    dsimp only
    rw [hn]
theorem chain_full {s r : ByteArray} {y0 y1 y2 y3 : Int} (h : chain s y0 y1 y2 y3 r 4) : inside (L s) = ofNums y0 y1 y2 y3 r := by
  obtain ⟨r1, r2, r3, h0, h1, h2, h3⟩ := h
  obtain ⟨a, rfl, e⟩ := numT_some h0
  obtain ⟨b, rfl, e1⟩ := numT_some h1
  obtain ⟨c, rfl, e2⟩ := numT_some h2
  obtain ⟨d, rfl, e3⟩ := numT_some h3
  unfold inside
  rw [e]
  dsimp only
  rw [e1]
  dsimp only
  rw [e2]
  dsimp only
  rw [e3]
  rfl
/-- What read leaves. -/
structure Red (w : World) (kb pb gb : Nat) (s : ByteArray) (y0 y1 y2 y3 : Int) (r : ByteArray) (ok : Bool) (W : World) : Prop where
  h : RD w kb pb gb y0 y1 y2 y3 W
  y : ok = true → inside (L s) = ofNums y0 y1 y2 y3 r
  n : ok = false → inside (L s) = noPage
set_option maxHeartbeats 4000000 in
set_option maxRecDepth 100000 in
theorem read_any {w W : World} {kb pb gb : Nat} (s : ByteArray) (hz : s.size ≤ 9223372036854775807) (h : RD w kb pb gb 0 0 0 0 W) :
    Calls Try.prog 22 #[.string s, .slice (some ⟨gb, 0, none⟩) 4 4] W fun e w' => ∃ y0 y1 y2 y3 r ok, e = .returned (.tuple #[.string r, .bool ok]) ∧ Red w kb pb gb s y0 y1 y2 y3 r ok w' := by
  go_enter Try.func22, Try.ntmps22
  replace h := Lib.hid h
  go_wp2_with fail
  go_loopw [13, 0] (fun i v W => ∃ (j : Nat) (x : Int) (r : ByteArray) (y0 y1 y2 y3 : Int), j ≤ 4 ∧ x = (j : Int) ∧ i = .int .i64 x ∧ v = .string r ∧ Hid (RD w kb pb gb y0 y1 y2 y3 W) ∧ r.size ≤ 9223372036854775807 ∧ Hid (chain s y0 y1 y2 y3 r j)) (fun i _ _ => 4 - (intOf i).toNat)
  case atStart => exact ⟨0, 0, s, 0, 0, 0, 0, by omega, rfl, rfl, rfl, h, hz, Lib.hid ⟨rfl, rfl, rfl, rfl, rfl⟩⟩
  case round =>
    clear h
    obtain ⟨j, x, r, y0, y1, y2, y3, hj, hx, rfl, rfl, hR, hrz, hch⟩ := hrel
    have hj4 : j = 0 ∨ j = 1 ∨ j = 2 ∨ j = 3 ∨ j = 4 := by omega
    rcases hj4 with rfl | rfl | rfl | rfl | rfl
    · obtain rfl : x = 0 := hx
      obtain ⟨z, r', b, hzb⟩ : ∃ z r' b, numT (getNum (L r)) = (z, r', b) := ⟨_, _, _, rfl⟩
      have pg := getnum_calls r hrz z r' b hzb wr
      have g0 : wr.cell? ⟨gb, 0, none⟩ = some (.pointer (some ⟨kb, 0, none⟩)) := by rw [cell_of_row _ _ _ _ _ _ hR.out.hg]; rfl
      have hrz2 := numT_size hzb hrz
      cases b with
      | false =>
        have hf := chain_fail (by omega) hch.out hzb
        go_wp2_with fail
        refine pg.mono ?_
        rintro e w2 ⟨rfl, hb⟩
        have hR2 := hR.out.below hb
        clear hb pg g0 hR
        go_wp2_with fail
        go_ret2
        exact ⟨_, _, _, _, _, _, rfl, hR2, fun e => (by cases e), fun _ => hf⟩
      | true =>
        have hch2 := Lib.hid ((chain_step hzb).1 hch.out)
        go_wp2_with fail
        refine pg.mono ?_
        rintro e w2 ⟨rfl, hb⟩
        have hR2 := hR.out.below hb
        have hc : w2.cell? ⟨kb, 0, none⟩ = some (.int .i64 y0) := by rw [cell_of_row _ _ _ _ _ _ hR2.hk]; rfl
        have hfr : w2.frozen? ⟨kb, 0, none⟩ = false := frozen_of_row _ _ _ _ _ hR2.hk
        have hR3 := Lib.hid (hR2.sk z)
        clear hb pg g0 hR hR2 hch hzb
        go_wp2_with fail
        go_roundw
        case rel => exact ⟨1, 1, r', z, y1, y2, y3, by omega, rfl, by go_num, rfl, hR3, hrz2, hch2⟩
        case measure => simp [intOf]
    · obtain rfl : x = 1 := hx
      obtain ⟨z, r', b, hzb⟩ : ∃ z r' b, numT (getNum (L r)) = (z, r', b) := ⟨_, _, _, rfl⟩
      have pg := getnum_calls r hrz z r' b hzb wr
      have g0 : wr.cell? ⟨gb, 1, none⟩ = some (.pointer (some ⟨pb, 1, none⟩)) := by rw [cell_of_row _ _ _ _ _ _ hR.out.hg]; rfl
      have hrz2 := numT_size hzb hrz
      cases b with
      | false =>
        have hf := chain_fail (by omega) hch.out hzb
        go_wp2_with fail
        refine pg.mono ?_
        rintro e w2 ⟨rfl, hb⟩
        have hR2 := hR.out.below hb
        clear hb pg g0 hR
        go_wp2_with fail
        go_ret2
        exact ⟨_, _, _, _, _, _, rfl, hR2, fun e => (by cases e), fun _ => hf⟩
      | true =>
        have hch2 := Lib.hid ((chain_step hzb).2.1 hch.out)
        go_wp2_with fail
        refine pg.mono ?_
        rintro e w2 ⟨rfl, hb⟩
        have hR2 := hR.out.below hb
        have hc : w2.cell? ⟨pb, 1, none⟩ = some (.int .i64 y1) := by rw [cell_of_row _ _ _ _ _ _ hR2.hp]; rfl
        have hfr : w2.frozen? ⟨pb, 1, none⟩ = false := frozen_of_row _ _ _ _ _ hR2.hp
        have hR3 := Lib.hid (hR2.s1 z)
        clear hb pg g0 hR hR2 hch hzb
        go_wp2_with fail
        go_roundw
        case rel => exact ⟨2, 2, r', y0, z, y2, y3, by omega, rfl, by go_num, rfl, hR3, hrz2, hch2⟩
        case measure => simp [intOf]
    · obtain rfl : x = 2 := hx
      obtain ⟨z, r', b, hzb⟩ : ∃ z r' b, numT (getNum (L r)) = (z, r', b) := ⟨_, _, _, rfl⟩
      have pg := getnum_calls r hrz z r' b hzb wr
      have g0 : wr.cell? ⟨gb, 2, none⟩ = some (.pointer (some ⟨pb, 2, none⟩)) := by rw [cell_of_row _ _ _ _ _ _ hR.out.hg]; rfl
      have hrz2 := numT_size hzb hrz
      cases b with
      | false =>
        have hf := chain_fail (by omega) hch.out hzb
        go_wp2_with fail
        refine pg.mono ?_
        rintro e w2 ⟨rfl, hb⟩
        have hR2 := hR.out.below hb
        clear hb pg g0 hR
        go_wp2_with fail
        go_ret2
        exact ⟨_, _, _, _, _, _, rfl, hR2, fun e => (by cases e), fun _ => hf⟩
      | true =>
        have hch2 := Lib.hid ((chain_step hzb).2.2.1 hch.out)
        go_wp2_with fail
        refine pg.mono ?_
        rintro e w2 ⟨rfl, hb⟩
        have hR2 := hR.out.below hb
        have hc : w2.cell? ⟨pb, 2, none⟩ = some (.int .i64 y2) := by rw [cell_of_row _ _ _ _ _ _ hR2.hp]; rfl
        have hfr : w2.frozen? ⟨pb, 2, none⟩ = false := frozen_of_row _ _ _ _ _ hR2.hp
        have hR3 := Lib.hid (hR2.s2 z)
        clear hb pg g0 hR hR2 hch hzb
        go_wp2_with fail
        go_roundw
        case rel => exact ⟨3, 3, r', y0, y1, z, y3, by omega, rfl, by go_num, rfl, hR3, hrz2, hch2⟩
        case measure => simp [intOf]
    · obtain rfl : x = 3 := hx
      obtain ⟨z, r', b, hzb⟩ : ∃ z r' b, numT (getNum (L r)) = (z, r', b) := ⟨_, _, _, rfl⟩
      have pg := getnum_calls r hrz z r' b hzb wr
      have g0 : wr.cell? ⟨gb, 3, none⟩ = some (.pointer (some ⟨pb, 3, none⟩)) := by rw [cell_of_row _ _ _ _ _ _ hR.out.hg]; rfl
      have hrz2 := numT_size hzb hrz
      cases b with
      | false =>
        have hf := chain_fail (by omega) hch.out hzb
        go_wp2_with fail
        refine pg.mono ?_
        rintro e w2 ⟨rfl, hb⟩
        have hR2 := hR.out.below hb
        clear hb pg g0 hR
        go_wp2_with fail
        go_ret2
        exact ⟨_, _, _, _, _, _, rfl, hR2, fun e => (by cases e), fun _ => hf⟩
      | true =>
        have hch2 := Lib.hid ((chain_step hzb).2.2.2 hch.out)
        go_wp2_with fail
        refine pg.mono ?_
        rintro e w2 ⟨rfl, hb⟩
        have hR2 := hR.out.below hb
        have hc : w2.cell? ⟨pb, 3, none⟩ = some (.int .i64 y3) := by rw [cell_of_row _ _ _ _ _ _ hR2.hp]; rfl
        have hfr : w2.frozen? ⟨pb, 3, none⟩ = false := frozen_of_row _ _ _ _ _ hR2.hp
        have hR3 := Lib.hid (hR2.s3 z)
        clear hb pg g0 hR hR2 hch hzb
        go_wp2_with fail
        go_roundw
        case rel => exact ⟨4, 4, r', y0, y1, y2, z, by omega, rfl, by go_num, rfl, hR3, hrz2, hch2⟩
        case measure => simp [intOf]
    · obtain rfl : x = 4 := hx
      go_wp2_with fail
      go_ret2
      exact ⟨_, _, _, _, _, _, rfl, hR.out, fun _ => chain_full hch.out, fun e => by cases e⟩
/-- A page's cells. -/
def pcells (k s o l : Int) (t : ByteArray) : Array Value := #[.int .i64 k, .int .i64 s, .int .i64 o, .int .i64 l, .string t]
abbrev zpage : Array Value := pcells 0 0 0 0 ⟨#[]⟩
theorem size24 : (Try.prog.info? 24).map (·.size) = some 5 := by kernel_rfl
theorem pcells_one (k s o l : Int) (t : ByteArray) : (pcells k s o l t).all (·.oneCell') = true := by simp [pcells, Value.oneCell']
/-- Three new blocks. -/
abbrev W3 (w : World) (A B C : Obj) : World := ((w.alloc A).alloc B).alloc C
theorem W3_2 (w : World) (A B C : Obj) : (W3 w A B C).heap[w.heap.size + 1 + 1]? = some C := by
  have h := heap_alloc_new ((w.alloc A).alloc B) C
  have e : ((w.alloc A).alloc B).heap.size = w.heap.size + 1 + 1 := by simp
  rwa [e] at h
theorem W3_1 (w : World) (A B C : Obj) : (W3 w A B C).heap[w.heap.size + 1]? = some B := by
  have h := heap_alloc2_new w A B
  unfold W3
  rw [heap_alloc_old _ _ (by simp)]
  exact h
theorem W3_0 (w : World) (A B C : Obj) : (W3 w A B C).heap[w.heap.size]? = some A := by
  unfold W3
  rw [heap_alloc_old _ _ (by simp; omega)]
  exact heap_alloc2_old w A B
theorem W3_below (w : World) (A B C : Obj) : Below w.heap.size w (W3 w A B C) := (((Below.refl _ _).alloc (Nat.le_refl _) _).alloc (by simp) _).alloc (by simp; omega) _
/-- The three blocks of Get. -/
structure G3 (w : World) (rb pb kb : Nat) (W : World) : Prop where
  hr : W.heap[rb]? = some (.cells zpage 24 (0, 0))
  hp : W.heap[pb]? = some (.cells zpage 24 (0, 0))
  hk : W.heap[kb]? = some (.cells #[.int .i64 0] 3 (0, 0))
  rp : rb < pb
  pk : pb < kb
  lo : w.heap.size ≤ rb
  kl : kb < W.heap.size
  b : Below w.heap.size w W
  b1 : Below (w.alloc (.cells zpage 24)).heap.size (w.alloc (.cells zpage 24)) W
theorem G3.first {w w1 : World} (hb : Below (W3 w (.cells zpage 24) (.cells zpage 24) (.cells #[.int .i64 0] 3)).heap.size (W3 w (.cells zpage 24) (.cells zpage 24) (.cells #[.int .i64 0] 3)) w1) : G3 w w.heap.size (w.heap.size + 1) (w.heap.size + 1 + 1) w1 := by
  have hs : (W3 w (.cells zpage 24) (.cells zpage 24) (.cells #[.int .i64 0] 3)).heap.size = w.heap.size + 3 := by simp
  have hz := hb.size
  refine ⟨(hb.block _ (by omega)).trans (W3_0 _ _ _ _), (hb.block _ (by omega)).trans (W3_1 _ _ _ _), (hb.block _ (by omega)).trans (W3_2 _ _ _ _), by omega, by omega, Nat.le_refl _, by omega, (W3_below _ _ _ _).trans (hb.mono (by omega)), ?_⟩
  have h1 : (w.alloc (.cells zpage 24)).heap.size = w.heap.size + 1 := by simp
  exact (((Below.refl _ _).alloc (Nat.le_refl _) _).alloc (by simp) _).trans (hb.mono (by omega))
theorem ne_empty {r : ByteArray} (h : ¬ r = ⟨#[]⟩) : r.toList.isEmpty = false := by
  rw [toList_L]
  cases hl : L r with
  | nil => exact absurd (L_inj (hl.trans L_empty.symm)) h
  | cons _ _ => rfl
/-- Behind read: the page as it was read. -/
structure PQ (w : World) (rb pb : Nat) (k s o l : Int) (t : ByteArray) (W : World) : Prop where
  hr : W.heap[rb]? = some (.cells zpage 24 (0, 0))
  hp : W.heap[pb]? = some (.cells (pcells k s o l t) 24 (0, 0))
  ne : rb ≠ pb
  lo : w.heap.size ≤ rb
  lp : w.heap.size ≤ pb
  b : Below w.heap.size w W
section
variable {w W W' : World} {rb pb kb gb : Nat} {k s o l : Int} {t : ByteArray}
theorem PQ.below (h : PQ w rb pb k s o l t W) (hb : Below W.heap.size W W') : PQ w rb pb k s o l t W' :=
  ⟨(hb.block rb (Array.getElem?_eq_some_iff.1 h.hr).1).trans h.hr, (hb.block pb (Array.getElem?_eq_some_iff.1 h.hp).1).trans h.hp, h.ne, h.lo, h.lp, h.b.trans (hb.mono h.b.size)⟩
theorem PQ.c0 (h : PQ w rb pb k s o l t W) : W.cell? ⟨pb, 0, none⟩ = some (.int .i64 k) := by rw [cell_of_row _ _ _ _ _ _ h.hp]; rfl
theorem PQ.c1 (h : PQ w rb pb k s o l t W) : W.cell? ⟨pb, 1, none⟩ = some (.int .i64 s) := by rw [cell_of_row _ _ _ _ _ _ h.hp]; rfl
theorem PQ.c2 (h : PQ w rb pb k s o l t W) : W.cell? ⟨pb, 2, none⟩ = some (.int .i64 o) := by rw [cell_of_row _ _ _ _ _ _ h.hp]; rfl
theorem PQ.c3 (h : PQ w rb pb k s o l t W) : W.cell? ⟨pb, 3, none⟩ = some (.int .i64 l) := by rw [cell_of_row _ _ _ _ _ _ h.hp]; rfl
theorem PQ.c4 (h : PQ w rb pb k s o l t W) : W.cell? ⟨pb, 4, none⟩ = some (.string t) := by rw [cell_of_row _ _ _ _ _ _ h.hp]; rfl
theorem PQ.fin (h : PQ w rb pb k s o l t W) (cs : Array Value) : (W.setRow rb cs).heap[rb]? = some (.cells cs 24 (0, 0)) ∧ Below w.heap.size w (W.setRow rb cs) := ⟨setRow_heap _ _ _ _ _ _ h.hr, below_setRow h.b h.lo cs⟩
/-- The places that read is handed. -/
theorem G3.places (h : G3 w w.heap.size pb kb W) : RD (w.alloc (.cells zpage 24)) kb pb W.heap.size 0 0 0 0 (W.alloc (.cells #[.pointer (some ⟨kb, 0, none⟩), .pointer (some ⟨pb, 1, none⟩), .pointer (some ⟨pb, 2, none⟩), .pointer (some ⟨pb, 3, none⟩)] 58)) := by
  have h1 : (w.alloc (.cells zpage 24)).heap.size = w.heap.size + 1 := by simp
  have h2 := h.rp
  have h3 := h.pk
  have h4 := h.kl
  exact ⟨(heap_alloc_old _ _ h.kl).trans h.hk, (heap_alloc_old _ _ (by omega)).trans h.hp, heap_alloc_new _ _, by omega, by omega, by omega, by omega, by omega, h.b1.alloc h.b1.size _⟩
theorem PQ.first {x : ByteArray} {y0 y1 y2 y3 : Int} {r : ByteArray} {ok : Bool} (h : Red (w.alloc (.cells zpage 24)) kb pb gb x y0 y1 y2 y3 r ok W) : PQ w w.heap.size pb y0 y1 y2 y3 r ((W.setCell ⟨pb, 4, none⟩ (.string r)).setCell ⟨pb, 0, none⟩ (.int .i64 y0)) := by
  have h1 : (w.alloc (.cells zpage 24)).heap.size = w.heap.size + 1 := by simp
  have h2 := h.h.np
  have hrb : W.heap[w.heap.size]? = some (.cells zpage 24 (0, 0)) := (h.h.b.block _ (by omega)).trans (heap_alloc_new _ _)
  have hb : Below w.heap.size w W := ((Below.refl _ _).alloc (Nat.le_refl _) _).trans (h.h.b.mono (by omega))
  have hne : w.heap.size ≠ pb := by omega
  have e1 := heap_setCell_same W pb 4 _ _ (.string r) h.h.hp
  refine ⟨(heap_setCell_other _ _ _ _ hne).trans ((heap_setCell_other _ _ _ _ hne).trans hrb), ?_, hne, Nat.le_refl _, by omega, (hb.setCell (by show _ ≤ pb; omega) _).setCell (by show _ ≤ pb; omega) _⟩
  rw [heap_setCell_same _ _ _ _ _ _ e1]
  rfl
end
set_option maxHeartbeats 4000000 in
set_option maxRecDepth 100000 in
theorem get_no (s : ByteArray) (hz : s.size ≤ 9223372036854775807) (w : World) (x r : ByteArray) (ok : Bool) (hx : tr (getFrame (L s)) = (x, r, ok)) (hno : ok = false ∨ ok = true ∧ ¬ r = ⟨#[]⟩) :
    Calls Try.prog 9 #[.string s] w fun e w' => e = .returned (.tuple #[.agg zpage, .bool false]) ∧ Below w.heap.size w w' := by
  go_enter Try.func9, Try.ntmps9
  have pg := getframe_calls s hz x r ok hx
  go_wp2_with fail
  refine (pg _).mono ?_
  rintro e w1 ⟨rfl, hb⟩
  have hG := Lib.hid (G3.first hb)
  clear hb pg
  rcases hno with rfl | ⟨rfl, hr⟩
  · go_wp2_with (refine wpList_store_row rfl 24 (.tmp 2) (.tmp 21) rfl w.heap.size zpage rfl rfl 24 zpage hG.out.hr (by rw [size24]; rfl) rfl (pcells_one _ _ _ _ _) ?_; rw [setRow_self _ _ _ _ _ hG.out.hr])
    have hl := run_loadVar_row (P := Try.prog) _ w.heap.size 24 24 zpage (0, 0) _ hG.out.hr Try.underlying24 rfl (by rw [size24]; rfl)
    refine bodyPost_ret (v := .tuple #[.agg zpage, .bool false]) ?_ rfl ⟨rfl, hG.out.b⟩
    simp [results, Try.results9, asAddr, hl]
  · have he := ne_empty hr
    go_wp2_with (refine wpList_store_row rfl 24 (.tmp 2) (.tmp 21) rfl w.heap.size zpage rfl rfl 24 zpage hG.out.hr (by rw [size24]; rfl) rfl (pcells_one _ _ _ _ _) ?_; rw [setRow_self _ _ _ _ _ hG.out.hr])
    have hl := run_loadVar_row (P := Try.prog) _ w.heap.size 24 24 zpage (0, 0) _ hG.out.hr Try.underlying24 rfl (by rw [size24]; rfl)
    refine bodyPost_ret (v := .tuple #[.agg zpage, .bool false]) ?_ rfl ⟨rfl, hG.out.b⟩
    simp [results, Try.results9, asAddr, hl]
set_option maxHeartbeats 4000000 in
set_option maxRecDepth 100000 in
theorem get_in (s : ByteArray) (hz : s.size ≤ 9223372036854775807) (w : World) (x : ByteArray) (hxz : x.size ≤ 9223372036854775807) (hx : tr (getFrame (L s)) = (x, ⟨#[]⟩, true)) :
    Calls Try.prog 9 #[.string s] w fun e w' => ∃ k q o l t b, inside (L x) = (k, q, o, l, t, b) ∧ e = .returned (.tuple #[.agg (pcells k q o l t), .bool b]) ∧ Below w.heap.size w w' := by
  go_enter Try.func9, Try.ntmps9
  have pg := getframe_calls s hz x ⟨#[]⟩ true hx
  go_wp2_with fail
  refine (pg _).mono ?_
  rintro e w1 ⟨rfl, hb⟩
  have hG := Lib.hid (G3.first hb)
  clear hb pg
  have pr := read_any x hxz hG.out.places
  generalize w.heap.size + 1 + 1 = kb at hG pr ⊢
  generalize w.heap.size + 1 = pb at hG pr ⊢
  have hpg := fun y0 y1 y2 y3 r ok W => PQ.first (w := w) (kb := kb) (pb := pb) (gb := w1.heap.size) (x := x) (y0 := y0) (y1 := y1) (y2 := y2) (y3 := y3) (r := r) (ok := ok) (W := W)
  go_wp2_with fail
  refine pr.mono ?_
  rintro e w3 ⟨y0, y1, y2, y3, r, ok, rfl, hR⟩
  have hP := hpg _ _ _ _ _ _ _ hR
  clear hpg pr
  have hkp := hR.h.kp
  have e1 := heap_setCell_same w3 pb 4 _ _ (.string r) hR.h.hp
  have hs4 : w3.cell? ⟨pb, 4, none⟩ = some (.string ⟨#[]⟩) := by rw [cell_of_row _ _ _ _ _ _ hR.h.hp]; rfl
  have hf4 : w3.frozen? ⟨pb, 4, none⟩ = false := frozen_of_row _ _ _ _ _ hR.h.hp
  have hk1 : (w3.setCell ⟨pb, 4, none⟩ (.string r)).cell? ⟨kb, 0, none⟩ = some (.int .i64 y0) := by rw [cell_of_row _ _ _ _ _ _ ((heap_setCell_other _ _ _ _ hkp).trans hR.h.hk)]; rfl
  have hs0 : (w3.setCell ⟨pb, 4, none⟩ (.string r)).cell? ⟨pb, 0, none⟩ = some (.int .i64 0) := by rw [cell_of_row _ _ _ _ _ _ e1]; rfl
  have hf0 : (w3.setCell ⟨pb, 4, none⟩ (.string r)).frozen? ⟨pb, 0, none⟩ = false := frozen_of_row _ _ _ _ _ e1
  have c0 := hP.c0
  have c1 := hP.c1
  have c2 := hP.c2
  have c3 := hP.c3
  have c4 := hP.c4
  have hy := hR.y
  have hn := hR.n
  have pv := valid_calls y0 y1 y2 y3 r
  generalize hvb : valid y0 y1 y2 y3 r = vb at pv
  replace hP := Lib.hid hP
  clear hR e1
  cases ok with
  | false =>
    have hi := hn rfl
    clear hy hn
    go_wp2_with (refine wpList_store_row rfl 24 (.tmp 2) (.tmp 41) rfl w.heap.size zpage rfl rfl 24 zpage hP.out.hr (by rw [size24]; rfl) rfl (pcells_one _ _ _ _ _) ?_; rw [setRow_self _ _ _ _ _ hP.out.hr])
    have hl := run_loadVar_row (P := Try.prog) _ w.heap.size 24 24 zpage (0, 0) _ hP.out.hr Try.underlying24 rfl (by rw [size24]; rfl)
    refine bodyPost_ret (v := .tuple #[.agg zpage, .bool false]) ?_ rfl ⟨0, 0, 0, 0, ⟨#[]⟩, false, hi, rfl, hP.out.b⟩
    simp [results, Try.results9, asAddr, hl]
  | true =>
    have hi := hy rfl
    clear hy hn
    go_wp2_with fail
    refine (pv _).mono ?_
    rintro e w5 ⟨rfl, hb⟩
    have hP5 := Lib.hid (hP.out.below hb)
    clear hb pv hP c0 c1 c2 c3 c4 hs4 hf4 hk1 hs0 hf0
    have c0 := hP5.out.c0
    have c1 := hP5.out.c1
    have c2 := hP5.out.c2
    have c3 := hP5.out.c3
    have c4 := hP5.out.c4
    unfold ofNums at hi
    rw [hvb] at hi
    cases vb with
    | false =>
      go_wp2_with (refine wpList_store_row rfl 24 (.tmp 2) (.tmp 41) rfl w.heap.size zpage rfl rfl 24 zpage hP5.out.hr (by rw [size24]; rfl) rfl (pcells_one _ _ _ _ _) ?_; rw [setRow_self _ _ _ _ _ hP5.out.hr])
      have hl := run_loadVar_row (P := Try.prog) _ w.heap.size 24 24 zpage (0, 0) _ hP5.out.hr Try.underlying24 rfl (by rw [size24]; rfl)
      refine bodyPost_ret (v := .tuple #[.agg zpage, .bool false]) ?_ rfl ⟨0, 0, 0, 0, ⟨#[]⟩, false, hi, rfl, hP5.out.b⟩
      simp [results, Try.results9, asAddr, hl]
    | true =>
      go_wp2_with (refine wpList_store_row rfl 24 (.tmp 2) (.tmp 42) rfl w.heap.size (pcells y0 y1 y2 y3 r) rfl rfl 24 zpage hP5.out.hr (by rw [size24]; rfl) rfl (pcells_one _ _ _ _ _) ?_)
      have hf := hP5.out.fin (pcells y0 y1 y2 y3 r)
      have hl := run_loadVar_row (P := Try.prog) _ w.heap.size 24 24 (pcells y0 y1 y2 y3 r) (0, 0) _ hf.1 Try.underlying24 rfl (by rw [size24]; rfl)
      refine bodyPost_ret (v := .tuple #[.agg (pcells y0 y1 y2 y3 r), .bool true]) ?_ rfl ⟨y0, y1, y2, y3, r, true, hi, rfl, hf.2⟩
      simp [results, Try.results9, asAddr, hl]
/-- page.Get, plainly. -/
theorem get_any (s : ByteArray) (hz : s.size ≤ 9223372036854775807) (w : World) (k q o l : Int) (t : ByteArray) (b : Bool) (hg : got s = (k, q, o, l, t, b)) :
    Calls Try.prog 9 #[.string s] w fun e w' => e = .returned (.tuple #[.agg (pcells k q o l t), .bool b]) ∧ Below w.heap.size w w' := by
  obtain ⟨x, r, ok, hx⟩ : ∃ x r ok, tr (getFrame (L s)) = (x, r, ok) := ⟨_, _, _, rfl⟩
  unfold got at hg
  cases hf : getFrame (L s) with
  | none =>
    rw [hf] at hg hx
    unfold tr at hx
    simp only [Prod.mk.injEq] at hx
    obtain ⟨rfl, rfl, rfl⟩ := hx
    simp only [noPage, Prod.mk.injEq] at hg
    obtain ⟨rfl, rfl, rfl, rfl, rfl, rfl⟩ := hg
    exact get_no s hz w _ _ _ (by rw [hf]; rfl) (Or.inl rfl)
  | some y =>
    obtain ⟨t1, r1⟩ := y
    rw [hf] at hg
    dsimp only at hg
    by_cases hr : r1 = []
    · rw [if_pos hr] at hg
      subst hr
      have hsz : (B t1).size ≤ 9223372036854775807 := by
        have := (getFrame_some hf).2
        rw [B_size]
        omega
      refine (get_in s hz w (B t1) hsz (by rw [hf]; rfl)).mono ?_
      rintro e w' ⟨k', q', o', l', t', b', hi, rfl, hb⟩
      rw [L_B, hg] at hi
      simp only [Prod.mk.injEq] at hi
      obtain ⟨rfl, rfl, rfl, rfl, rfl, rfl⟩ := hi
      exact ⟨rfl, hb⟩
    · rw [if_neg hr] at hg
      simp only [noPage, Prod.mk.injEq] at hg
      obtain ⟨rfl, rfl, rfl, rfl, rfl, rfl⟩ := hg
      refine get_no s hz w (B t1) (B r1) true (by rw [hf]; rfl) (Or.inr ⟨rfl, fun e => hr ?_⟩)
      have := congrArg L e
      rw [L_B, L_empty] at this
      exact this
end Go.Proofs.Ytobkeakbahkglaa.PageG
