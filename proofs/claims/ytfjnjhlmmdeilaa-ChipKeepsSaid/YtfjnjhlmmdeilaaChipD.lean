/- The walks of a chip's deeds: Program. -/
import Derived.Test.YtfjnjhlmmdeilaaChipO
import Derived.StillTailTactics
set_option linter.unusedVariables false
namespace Go.Proofs.Ytfjnjhlmmdeilaa.ChipA
open Go.RowKit Go.Proofs.Ytfjnjhlmmdeilaa.ChipM

section
variable {own : Nat → Prop} {w w' : World} {m : Chp} {c bb : Nat} {cs : Array Value} {fz : Option Nat} {fl : Nat → Option Nat}
theorem Own.bcell (h : Own own w m c bb cs fz fl) {k : Nat} (hk : k < m.n) {p : Nat} (hp : p < 36) : ∃ v, w.cell? ⟨bb, k * 36 + p, none⟩ = some v := by
  have hf := h.fits hk
  rw [cell_of_row _ _ _ _ _ _ h.hb, Array.getElem?_eq_getElem (show k * 36 + p < cs.size by omega)]
  exact ⟨_, rfl⟩
theorem Own.bfroz (h : Own own w m c bb cs fz fl) (o : Nat) : w.frozen? ⟨bb, o, none⟩ = false := frozen_of_row _ _ _ _ _ h.hb
theorem Own.cfroz (h : Own own w m c bb cs fz fl) (o : Nat) : w.frozen? ⟨c, o, none⟩ = false := frozen_of_row _ _ _ _ _ h.hc
set_option maxHeartbeats 1000000 in
set_option maxRecDepth 100000 in
theorem put_any (h : Own own w m c bb cs fz fl) (hd : m.data ≤ 256) {k : Nat} (hk : k < m.n) (hp : (m.blk k).text.length < 32) (t : ByteArray) (kc kx kp : Nat)
    (hkc : w.cell? ⟨kc, 0, none⟩ = some (.pointer (some ⟨c, 0, none⟩))) (hkx : w.cell? ⟨kx, 0, none⟩ = some (.pointer (some ⟨bb, k * 36, none⟩))) (hkp : w.cell? ⟨kp, 0, none⟩ = some (.int .i64 ((m.blk k).text.length : Int)))
    (hx : bb ≠ kx) :
    Calls Try.prog 30 #[.string t, .pointer (some ⟨kc, 0, none⟩), .pointer (some ⟨kx, 0, none⟩), .pointer (some ⟨kp, 0, none⟩)] w fun e w' => e = .returned (.tuple #[]) ∧ w' = putW w.drew bb k (m.blk k).text.length (cut m t) := by
  have cc := cut_any h.drew hd t
  have hn := h.b32 hk
  obtain ⟨v, hv⟩ := h.bcell hk (p := (m.blk k).text.length) (by omega)
  have hf := h.bfroz
  unfold putW
  generalize cut m t = s at cc
  generalize (m.blk k).text.length = q at hp hkp hn hv
  generalize k * 36 = o at hkx hn hv
  have hp' : (q : Int) < 32 := by omega
  clear h hk hd
  go_enter Try.func30, Try.ntmps30
  go_wp2_with fail
  go_still_tail 8, (by kernel_rfl)
  still_call cc
  repeat still_step
  refine wpStill_nil ?_
  go_wp2_with fail
  go_end0
  exact ⟨rfl, rfl⟩
theorem do_any (h : Own own w m c bb cs fz fl) (hd : m.data ≤ 256) {k : Nat} (hk : k < m.n) (hp : (m.blk k).text.length < 32) (t : ByteArray) (kc kx kp kf ks : Nat)
    (hkc : w.cell? ⟨kc, 0, none⟩ = some (.pointer (some ⟨c, 0, none⟩))) (hkx : w.cell? ⟨kx, 0, none⟩ = some (.pointer (some ⟨bb, k * 36, none⟩))) (hkp : w.cell? ⟨kp, 0, none⟩ = some (.int .i64 ((m.blk k).text.length : Int)))
    (hkf : w.cell? ⟨kf, 0, none⟩ = some (.func (.func 30) #[] #[.pointer (some ⟨kc, 0, none⟩), .pointer (some ⟨kx, 0, none⟩), .pointer (some ⟨kp, 0, none⟩)])) (hks : w.cell? ⟨ks, 0, none⟩ = some (.string t))
    (hx : bb ≠ kx) :
    Calls Try.prog 32 #[.pointer (some ⟨kf, 0, none⟩), .pointer (some ⟨ks, 0, none⟩)] w fun e w' => e = .returned (.tuple #[]) ∧ w' = putW w.drew bb k (m.blk k).text.length (cut m t) := by
  have cp := put_any h hd hk hp t kc kx kp hkc hkx hkp hx
  clear h hd hk hp hkc hkx hkp hx
  go_enter Try.func32, Try.ntmps32
  go_wp2_with fail
  refine cp.mono ?_
  rintro e w' ⟨rfl, hw⟩
  go_wp2_with fail
  go_end0
  exact ⟨rfl, rfl⟩
/-- The chip is where it was; and but for its own blocks, all is. -/
def Goes (own : Nat → Prop) (w w' : World) (c bb : Nat) (m : Chp) : Prop := (∃ cs fz fl, Own own w' m c bb cs fz fl) ∧ Foot own w w'
def DeedPost (own : Nat → Prop) (w : World) (c bb : Nat) (r : Int × Chp) (e : Ending) (w' : World) : Prop := e = .returned (.int .i64 r.1) ∧ Goes own w w' c bb r.2
theorem deed_bad (h : Own own w m c bb cs fz fl) {k : Nat} (hk : k < m.n) (hb : (m.blk k).bad = true) (v1 v2 v3 : Value) :
    Calls Try.prog 27 #[.pointer (some ⟨c, 0, none⟩), .pointer (some ⟨bb, k * 36, none⟩), v1, v2, v3] w fun e w' => e = .returned (.int .i64 15) ∧ w' = w := by
  have c34 := h.b34 hk
  rw [hb] at c34
  generalize k * 36 = o at c34
  clear h hk hb
  go_enter Try.func27, Try.ntmps27
  go_wp2_with fail
  go_ret
  exact ⟨rfl, rfl⟩
theorem deed_dead (h : Own own w m c bb cs fz fl) {k : Nat} (hk : k < m.n) (hb : (m.blk k).bad = false) {t : ByteArray} (hf : m.fuse = some (0, t)) (ht : t.toList.isEmpty = true) (v1 v2 v3 : Value) :
    Calls Try.prog 27 #[.pointer (some ⟨c, 0, none⟩), .pointer (some ⟨bb, k * 36, none⟩), v1, v2, v3] w fun e w' => e = .returned (.int .i64 14) ∧ w' = w.setCell ⟨c, 3, none⟩ (.bool true) := by
  have c34 := h.b34 hk
  rw [hb] at c34
  have c3 := h.c3
  have c4 := h.c4
  have cf := h.cfroz 3
  obtain ⟨z, rfl⟩ : ∃ z, fz = some z := by
    cases fz with
    | none => rw [h.f0.1 rfl] at hf; cases hf
    | some z => exact ⟨z, rfl⟩
  obtain ⟨_, n1, n2, n, t', e2, hh⟩ := h.f1 z rfl
  rw [hf] at e2
  simp only [Option.some.injEq, Prod.mk.injEq] at e2
  obtain ⟨rfl, rfl⟩ := e2
  have z0 : w.cell? ⟨z, 0, none⟩ = some (.int .i64 0) := by rw [cell_of_row _ _ _ _ _ _ hh]; rfl
  have z1 : w.cell? ⟨z, 1, none⟩ = some (.string t) := by rw [cell_of_row _ _ _ _ _ _ hh]; rfl
  unfold ptr at c4
  simp only [Option.map_some] at c4
  have ht2 : t.toList = [] := by simpa using ht
  have ht3 : (!t.toList.isEmpty) = false := by rw [ht]; rfl
  generalize m.dead = dd at c3
  generalize k * 36 = o at c34
  clear h hk hb hh hf
  go_enter Try.func27, Try.ntmps27
  go_wp2_with fail
  go_ret
  exact ⟨rfl, rfl⟩
theorem deed_dies (h : Own own w m c bb cs fz fl) {k : Nat} (hk : k < m.n) (hb : (m.blk k).bad = false) {t : ByteArray} (hf : m.fuse = some (0, t)) (ht : t.toList.isEmpty = false) (v1 v3 : Value) (f2 : FuncId) (he : ∀ (xs : Array Value) (W : World), (callFunc f2 xs).run Try.prog W = .ok (.enter f2 xs) W) (cap2 : Array Value) (R : World → Prop)
    (hd : Calls Try.prog f2 (#[.string t] ++ cap2) (w.setCell ⟨c, 3, none⟩ (.bool true)) fun e w' => e = .returned (.tuple #[]) ∧ R w') :
    Calls Try.prog 27 #[.pointer (some ⟨c, 0, none⟩), .pointer (some ⟨bb, k * 36, none⟩), v1, .func (.func f2) #[] cap2, v3] w fun e w' => e = .returned (.int .i64 14) ∧ R w' := by
  have c34 := h.b34 hk
  rw [hb] at c34
  have c3 := h.c3
  have c4 := h.c4
  have cf := h.cfroz 3
  obtain ⟨z, rfl⟩ : ∃ z, fz = some z := by
    cases fz with
    | none => rw [h.f0.1 rfl] at hf; cases hf
    | some z => exact ⟨z, rfl⟩
  obtain ⟨_, n1, n2, n, t', e2, hh⟩ := h.f1 z rfl
  rw [hf] at e2
  simp only [Option.some.injEq, Prod.mk.injEq] at e2
  obtain ⟨rfl, rfl⟩ := e2
  have z0 : w.cell? ⟨z, 0, none⟩ = some (.int .i64 0) := by rw [cell_of_row _ _ _ _ _ _ hh]; rfl
  have z1 : w.cell? ⟨z, 1, none⟩ = some (.string t) := by rw [cell_of_row _ _ _ _ _ _ hh]; rfl
  unfold ptr at c4
  simp only [Option.map_some] at c4
  have ht2 : ¬ t.toList = [] := by simpa using ht
  have ht3 : (!t.toList.isEmpty) = true := by rw [ht]; rfl
  generalize m.dead = dd at c3
  generalize k * 36 = o at c34
  clear h hk hb hh hf
  go_enter Try.func27, Try.ntmps27
  go_wp2_with fail
  refine hd.mono ?_
  rintro e w' ⟨rfl, hR⟩
  go_wp2_with fail
  go_ret
  exact ⟨rfl, hR⟩
theorem deed_do0 (h : Own own w m c bb cs fz fl) {k : Nat} (hk : k < m.n) (hb : (m.blk k).bad = false) (hf : m.fuse = none) (hl : (m.blk k).fails = none) (v2 v3 : Value) (f1 : FuncId) (he : ∀ (xs : Array Value) (W : World), (callFunc f1 xs).run Try.prog W = .ok (.enter f1 xs) W) (cap1 : Array Value) (R : World → Prop)
    (hd : Calls Try.prog f1 cap1 w fun e w' => e = .returned (.tuple #[]) ∧ R w') :
    Calls Try.prog 27 #[.pointer (some ⟨c, 0, none⟩), .pointer (some ⟨bb, k * 36, none⟩), .func (.func f1) #[] cap1, v2, v3] w fun e w' => e = .returned (.int .i64 0) ∧ R w' := by
  have c34 := h.b34 hk
  rw [hb] at c34
  have c4 := h.c4
  have e0 : fz = none := h.f0.2 hf
  rw [e0] at c4
  unfold ptr at c4
  simp only [Option.map_none] at c4
  have c35 := h.b35 hk
  have e1 : fl k = none := (h.l0 k hk).2 hl
  rw [e1] at c35
  unfold ptr at c35
  simp only [Option.map_none] at c35
  generalize k * 36 = o at c34 c35
  clear h hk hb hf hl
  go_enter Try.func27, Try.ntmps27
  go_wp2_with fail
  refine hd.mono ?_
  rintro e w' ⟨rfl, hR⟩
  go_wp2_with fail
  go_ret
  exact ⟨rfl, hR⟩
theorem deed_fails0 (h : Own own w m c bb cs fz fl) {k : Nat} (hk : k < m.n) (hb : (m.blk k).bad = false) (hf : m.fuse = none) {s : ByteArray} (hl : (m.blk k).fails = some s) (v1 v2 : Value) (f3 : FuncId) (he : ∀ (xs : Array Value) (W : World), (callFunc f3 xs).run Try.prog W = .ok (.enter f3 xs) W) (cap3 : Array Value) (R : World → Prop)
    (hd : Calls Try.prog f3 (#[.string s] ++ cap3) w fun e w' => e = .returned (.tuple #[]) ∧ R w') (hR : ∀ W, R W → (∃ v, W.cell? ⟨bb, k * 36 + 34, none⟩ = some v) ∧ (∃ v, W.cell? ⟨bb, k * 36 + 35, none⟩ = some v) ∧ ∀ i, W.frozen? ⟨bb, i, none⟩ = false) :
    Calls Try.prog 27 #[.pointer (some ⟨c, 0, none⟩), .pointer (some ⟨bb, k * 36, none⟩), v1, v2, .func (.func f3) #[] cap3] w fun e w' => e = .returned (.int .i64 15) ∧ ∃ W, R W ∧ w' = fellW W bb k := by
  have c34 := h.b34 hk
  rw [hb] at c34
  have c4 := h.c4
  have e0 : fz = none := h.f0.2 hf
  rw [e0] at c4
  unfold ptr at c4
  simp only [Option.map_none] at c4
  have c35 := h.b35 hk
  obtain ⟨y, hy⟩ : ∃ y, fl k = some y := by
    cases e : fl k with
    | none => rw [(h.l0 k hk).1 e] at hl; cases hl
    | some y => exact ⟨y, rfl⟩
  obtain ⟨_, y1, y2, y3, s', e3, hh3⟩ := h.l1 k hk y hy
  rw [hl] at e3
  obtain rfl := Option.some.inj e3
  rw [hy] at c35
  unfold ptr at c35
  simp only [Option.map_some] at c35
  have y0 : w.cell? ⟨y, 0, none⟩ = some (.string s) := by rw [cell_of_row _ _ _ _ _ _ hh3]; rfl
  unfold fellW
  generalize k * 36 = o at c34 c35 hR
  clear h hk hb hf hl
  go_enter Try.func27, Try.ntmps27
  go_wp2_with fail
  refine hd.mono ?_
  rintro e w' ⟨rfl, hW⟩
  obtain ⟨⟨v, hv⟩, ⟨u, hu⟩, hfz⟩ := hR w' hW
  clear hR
  have hW := Lib.hid hW
  go_wp2_with fail
  go_ret
  exact ⟨rfl, _, hW.out, rfl⟩
theorem deed_do1 (h : Own own w m c bb cs fz fl) {k : Nat} (hk : k < m.n) (hb : (m.blk k).bad = false) {n : Nat} {t : ByteArray} (hf : m.fuse = some (n + 1, t)) (hn : n < 1073741824) (hl : (m.blk k).fails = none) (v2 v3 : Value) (f1 : FuncId) (he : ∀ (xs : Array Value) (W : World), (callFunc f1 xs).run Try.prog W = .ok (.enter f1 xs) W) (cap1 : Array Value) (R : World → Prop)
    (hd : ∀ z, fz = some z → Calls Try.prog f1 cap1 (w.setCell ⟨z, 0, none⟩ (.int .i64 (n : Int))) fun e w' => e = .returned (.tuple #[]) ∧ R w') :
    Calls Try.prog 27 #[.pointer (some ⟨c, 0, none⟩), .pointer (some ⟨bb, k * 36, none⟩), .func (.func f1) #[] cap1, v2, v3] w fun e w' => e = .returned (.int .i64 0) ∧ R w' := by
  have c34 := h.b34 hk
  rw [hb] at c34
  have c4 := h.c4
  obtain ⟨z, rfl⟩ : ∃ z, fz = some z := by
    cases fz with
    | none => rw [h.f0.1 rfl] at hf; cases hf
    | some z => exact ⟨z, rfl⟩
  have h1 := h.burn rfl hf
  obtain ⟨_, n1, n2, n', t', e2, hh⟩ := h.f1 z rfl
  rw [hf] at e2
  simp only [Option.some.injEq, Prod.mk.injEq] at e2
  obtain ⟨rfl, rfl⟩ := e2
  have z0 : w.cell? ⟨z, 0, none⟩ = some (.int .i64 ((n + 1 : Nat) : Int)) := by rw [cell_of_row _ _ _ _ _ _ hh]; rfl
  have zf : w.frozen? ⟨z, 0, none⟩ = false := frozen_of_row _ _ _ _ _ hh
  unfold ptr at c4
  simp only [Option.map_some] at c4
  have q1 : (((n + 1 : Nat) : Int) == 0) = false := by simp; omega
  have q2 : ((n + 1 : Nat) : Int) - 1 = (n : Int) := by omega
  have q3 : ((n + 1 : Nat) : Int) ≤ 1073741824 := by omega
  have q4 : (0 : Int) ≤ ((n + 1 : Nat) : Int) := by omega
  have d4 := h1.c4
  unfold ptr at d4
  simp only [Option.map_some] at d4
  have c35 := h1.b35 hk
  replace hd := hd z rfl
  have e1 : fl k = none := (h.l0 k hk).2 hl
  rw [e1] at c35
  unfold ptr at c35
  simp only [Option.map_none] at c35
  generalize k * 36 = o at c34 c35
  generalize ((n + 1 : Nat) : Int) = nn at z0 q1 q2 q3 q4
  clear h1
  clear h hk hb hf hl
  go_enter Try.func27, Try.ntmps27
  go_wp2_with fail
  refine hd.mono ?_
  rintro e w' ⟨rfl, hR⟩
  go_wp2_with fail
  go_ret
  exact ⟨rfl, hR⟩
theorem deed_fails1 (h : Own own w m c bb cs fz fl) {k : Nat} (hk : k < m.n) (hb : (m.blk k).bad = false) {n : Nat} {t : ByteArray} (hf : m.fuse = some (n + 1, t)) (hn : n < 1073741824) {s : ByteArray} (hl : (m.blk k).fails = some s) (v1 v2 : Value) (f3 : FuncId) (he : ∀ (xs : Array Value) (W : World), (callFunc f3 xs).run Try.prog W = .ok (.enter f3 xs) W) (cap3 : Array Value) (R : World → Prop)
    (hd : ∀ z, fz = some z → Calls Try.prog f3 (#[.string s] ++ cap3) (w.setCell ⟨z, 0, none⟩ (.int .i64 (n : Int))) fun e w' => e = .returned (.tuple #[]) ∧ R w') (hR : ∀ W, R W → (∃ v, W.cell? ⟨bb, k * 36 + 34, none⟩ = some v) ∧ (∃ v, W.cell? ⟨bb, k * 36 + 35, none⟩ = some v) ∧ ∀ i, W.frozen? ⟨bb, i, none⟩ = false) :
    Calls Try.prog 27 #[.pointer (some ⟨c, 0, none⟩), .pointer (some ⟨bb, k * 36, none⟩), v1, v2, .func (.func f3) #[] cap3] w fun e w' => e = .returned (.int .i64 15) ∧ ∃ W, R W ∧ w' = fellW W bb k := by
  have c34 := h.b34 hk
  rw [hb] at c34
  have c4 := h.c4
  obtain ⟨z, rfl⟩ : ∃ z, fz = some z := by
    cases fz with
    | none => rw [h.f0.1 rfl] at hf; cases hf
    | some z => exact ⟨z, rfl⟩
  have h1 := h.burn rfl hf
  obtain ⟨_, n1, n2, n', t', e2, hh⟩ := h.f1 z rfl
  rw [hf] at e2
  simp only [Option.some.injEq, Prod.mk.injEq] at e2
  obtain ⟨rfl, rfl⟩ := e2
  have z0 : w.cell? ⟨z, 0, none⟩ = some (.int .i64 ((n + 1 : Nat) : Int)) := by rw [cell_of_row _ _ _ _ _ _ hh]; rfl
  have zf : w.frozen? ⟨z, 0, none⟩ = false := frozen_of_row _ _ _ _ _ hh
  unfold ptr at c4
  simp only [Option.map_some] at c4
  have q1 : (((n + 1 : Nat) : Int) == 0) = false := by simp; omega
  have q2 : ((n + 1 : Nat) : Int) - 1 = (n : Int) := by omega
  have q3 : ((n + 1 : Nat) : Int) ≤ 1073741824 := by omega
  have q4 : (0 : Int) ≤ ((n + 1 : Nat) : Int) := by omega
  have d4 := h1.c4
  unfold ptr at d4
  simp only [Option.map_some] at d4
  have c35 := h1.b35 hk
  replace hd := hd z rfl
  obtain ⟨y, hy⟩ : ∃ y, fl k = some y := by
    cases e : fl k with
    | none => rw [(h.l0 k hk).1 e] at hl; cases hl
    | some y => exact ⟨y, rfl⟩
  obtain ⟨_, y1, y2, y3, s', e3, hh3⟩ := h.l1 k hk y hy
  rw [hl] at e3
  obtain rfl := Option.some.inj e3
  rw [hy] at c35
  unfold ptr at c35
  simp only [Option.map_some] at c35
  have y0 : (w.setCell ⟨z, 0, none⟩ (.int .i64 (n : Int))).cell? ⟨y, 0, none⟩ = some (.string s) := by rw [cell_of_row _ _ _ _ _ _ ((heap_setCell_other _ _ _ _ (fun e => y3 (congrArg some e.symm))).trans hh3)]; rfl
  unfold fellW
  generalize k * 36 = o at c34 c35 hR
  generalize ((n + 1 : Nat) : Int) = nn at z0 q1 q2 q3 q4
  clear h1
  clear h hk hb hf hl
  go_enter Try.func27, Try.ntmps27
  go_wp2_with fail
  refine hd.mono ?_
  rintro e w' ⟨rfl, hW⟩
  obtain ⟨⟨v, hv⟩, ⟨u, hu⟩, hfz⟩ := hR w' hW
  clear hR
  have hW := Lib.hid hW
  go_wp2_with fail
  go_ret
  exact ⟨rfl, _, hW.out, rfl⟩
theorem enters30 (xs : Array Value) (W : World) : (callFunc 30 xs).run Try.prog W = .ok (.enter 30 xs) W := by
  simp [go_sem]
theorem enters32 (xs : Array Value) (W : World) : (callFunc 32 xs).run Try.prog W = .ok (.enter 32 xs) W := by
  kernel_rfl
end
end Go.Proofs.Ytfjnjhlmmdeilaa.ChipA
