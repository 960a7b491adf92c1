/- The walk of ChipDoes. -/
import Derived.Test.YtfjnjhlmmdeilaaSame
import Derived.Test.YtfjnjhlmmdeilaaOpenA
import Derived.Test.YtfjnjhlmmdeilaaChipW
set_option linter.unusedVariables false
namespace Go.Proofs.Ytfjnjhlmmdeilaa.Does
open Go.RowKit Go.Proofs.Ytfjnjhlmmdeilaa.ChipM Go.Proofs.Ytfjnjhlmmdeilaa.ChipA Go.Proofs.Ytfjnjhlmmdeilaa.RefA Go.Proofs.Ytfjnjhlmmdeilaa.ChipC

theorem sizes_no {n p d : Int} (h : sizes n p d = false) : (decide (n < 2) || decide (64 < n) || decide (p < 2) || decide (32 < p) || decide (d < 32) || decide (256 < d)) = true := by
  unfold sizes within at h
  simp only [Bool.or_eq_true, decide_eq_true_eq]
  simp only [Bool.and_eq_false_iff, decide_eq_false_iff_not] at h
  omega
theorem new_rno (n p d : Int) (h : sizes n p d = false) (w : World) :
    Calls Try.prog 19 #[.int .i64 n, .int .i64 p, .int .i64 d] w fun e w' => e = .returned (.pointer none) ∧ w' = w := by
  have hs := sizes_no h
  clear h
  go_enter Try.func19, Try.ntmps19
  go_wp2_with fail
  all_goals first
    | (go_ret; exact ⟨rfl, rfl⟩)
    | (exfalso; simp only [Bool.or_eq_true, decide_eq_true_eq] at hs; omega)
theorem actInfo : (Try.prog.info? 44).map (·.size) = some 4 := by kernel_rfl
theorem run_load_act (w : World) (a : Addr) (k b p : Int) (s : ByteArray) (h0 : w.cell? (a.add 0) = some (.int .i64 k)) (h1 : w.cell? (a.add 1) = some (.int .i64 b)) (h2 : w.cell? (a.add 2) = some (.int .i64 p)) (h3 : w.cell? (a.add 3) = some (.string s)) :
    (Instr.loadAt 44 (.pointer (some a))).run Try.prog w = .ok (.agg (Both.cellsA k b p s)) w := by
  have hl : (loadCells a 4).run Try.prog w = .ok (Both.cellsA k b p s) w :=
    run_loadCells_list (P := Try.prog) w a [.int .i64 k, .int .i64 b, .int .i64 p, .string s] (fun j v hv => by
      match j, hv with
      | 0, hv => simp at hv; rw [h0, hv]
      | 1, hv => simp at hv; rw [h1, hv]
      | 2, hv => simp at hv; rw [h2, hv]
      | 3, hv => simp at hv; rw [h3, hv])
  have hagg : (isAgg 44).run Try.prog w = .ok true w := by
    unfold isAgg
    rw [Sem.run_bind, run_underlying Try.underlying44 w]
    rfl
  have hlv : (loadVar 44 a).run Try.prog w = .ok (.agg (Both.cellsA k b p s)) w := by
    cases hq : Try.prog.info? 44 with
    | none => have := actInfo; rw [hq] at this; cases this
    | some i =>
      have hs : i.size = 4 := by have := actInfo; rw [hq] at this; simpa using this
      simp [loadVar, Sem.run_bind, hagg, sizeOf, typeInfo, hq, hs, hl]
  simp only [Instr.loadAt, Instr.sureAddr, Sem.run_bind, Sem.run_pure, Result.andThen_ok, hlv]
/-- What holds at each round's head. -/
structure LT (w : World) (c r k : Nat) (W : World) : Prop where
  ex : ∃ oc or m, ChipAt oc W c m ∧ RefAt or W r m ∧ (∀ j, oc j → ¬ or j) ∧ (∀ j, oc j → w.heap.size ≤ j) ∧ (∀ j, or j → w.heap.size ≤ j) ∧ Ok m k
  b : Below w.heap.size w W
/-- Two new ones. -/
theorem LT.first {w w1 w2 w3 : World} {n p d : Nat} {v : Value} {pg : Nat → Nat} (hs : sizes n p d = true) (hb : Below w.heap.size w w1)
    (hc : ChipAt (fun k => k = w1.heap.size ∨ k = w1.heap.size + 1) w2 (w1.heap.size + 1) (new n p d)) (hf : Below w1.heap.size w1 w2) (hn : RefN.NW w2 p d n v v pg w3) : LT w (w1.heap.size + 1) w2.heap.size 0 w3 where
  ex := by
    have hz : 2 ≤ n ∧ n ≤ 64 := by unfold sizes within at hs; simp at hs; omega
    have hr := hn.refat hz.2 (by omega)
    refine ⟨_, _, new n p d, ChipAt.below hc hn.b, hr, fun j h1 h2 => ?_, fun j h1 => ?_, fun j h1 => ?_, ok_new hs⟩
    · have := hc.lt j h1
      omega
    · have := hb.size
      omega
    · have := hb.size
      have := hf.size
      omega
  b := (hb.trans (hf.mono hb.size)).trans (hn.b.mono (Nat.le_trans hb.size hf.size))
theorem LT.told {w W W' : World} {c r k : Nat} {oc or : Nat → Prop} {m : Chp} {e : Ending} (hb : Below w.heap.size w W) (ho : ∀ j, oc j → w.heap.size ≤ j) (hr : ∀ j, or j → w.heap.size ≤ j) (ok : Ok m k) (h : Both.Done oc or W c r m e W') : LT w c r k W' := by
  obtain ⟨_, oc', or', h⟩ := h
  refine ⟨⟨oc', or', m, h.a, h.b, h.dis, fun j hj => (h.nc j hj).elim (ho j) fun x => Nat.le_trans hb.size x, fun j hj => (h.nr j hj).elim (hr j) fun x => Nat.le_trans hb.size x, ok⟩, ?_⟩
  exact hb.trans (h.foot.below hb.size fun j hj => hj.elim (ho j) (hr j))
theorem add_add0 (x : Addr) (n : Nat) : (x.add n).add 0 = x.add n := by unfold Addr.add; split <;> simp_all
/-- An act, later. -/
theorem act_later {w W : World} {x : Addr} {i : Nat} {q : Int × Int × Int × ByteArray} (h : OpenA.Cells w x i q) (hb : Below w.heap.size w W) :
    (Instr.loadAt 44 (.pointer (some (x.add (i * 4))))).run Try.prog W = .ok (.agg (Both.cellsA q.1 q.2.1 q.2.2.1 q.2.2.2)) W := by
  have g := fun {y : Addr} {v : Value} (h : w.cell? y = some v) => (hb.cell (World.block_lt_of_cell? _ _ h)).trans h
  exact run_load_act W _ _ _ _ _ (by rw [add_add0]; exact g h.c0) (g h.c1) (g h.c2) (g h.c3)
set_option maxHeartbeats 2000000 in
set_option maxRecDepth 100000 in
theorem does_main (a : Option Addr) (len cap n p d : Nat) (z : Nat → Int × Int × Int × ByteArray) (w : World) (hl : len ≤ 60) (hs : sizes n p d = true) (hc : ∀ i, i < len → ∃ x, a = some x ∧ OpenA.Cells w x i (z i)) :
    Calls Try.prog 6 #[.int .i64 (n : Int), .int .i64 (p : Int), .int .i64 (d : Int), .slice a len cap] w fun e w' => e = .returned (.bool true) ∧ Below w.heap.size w w' := by
  have hz : (2 ≤ n ∧ n ≤ 64) ∧ (2 ≤ p ∧ p ≤ 32) ∧ (32 ≤ d ∧ d ≤ 256) := by unfold sizes within at hs; simp at hs; omega
  have hnew := new_c n p d hs
  have hrew := RefN.new_r n p d hz.1.1 hz.1.2 hz.2.1.1 hz.2.1.2 hz.2.2.1 hz.2.2.2
  have q1 : decide (60 < (len : Int)) = false := decide_eq_false (by omega)
  have q2 : decide (60 < len) = false := decide_eq_false (by omega)
  clear hz
  go_enter Try.func6, Try.ntmps6
  go_wp2_with fail
  refine (ChipW.works_any _).mono ?_
  rintro e w1 ⟨rfl, hb1⟩
  go_wp2_with fail
  refine (hnew _).mono ?_
  rintro e w2 ⟨rfl, h2, f2⟩
  go_wp2_with fail
  refine (hrew _).mono ?_
  rintro e w3 ⟨r, v, pg, rfl, rfl, hN⟩
  have hT := LT.first hs hb1 h2 f2 hN
  clear hN h2 f2 hb1 hnew hrew
  generalize w1.heap.size + 1 = c at hT ⊢
  generalize w2.heap.size = r at hT ⊢
  replace hT := Lib.hid hT
  go_wp2_with fail
  clear q1 q2
  go_loopw [13] (fun i wr => ∃ k : Nat, k ≤ len ∧ i = .int .i64 k ∧ LT w c r k wr) (fun i _ => len - (intOf i).toNat)
  case atStart => exact ⟨0, by omega, rfl, hT.out⟩
  case round =>
    clear hT
    obtain ⟨k, hk, rfl, hT⟩ := hrel
    by_cases hlk : k < len
    · obtain ⟨x, rfl, hx⟩ := hc k hlk
      have ha := act_later hx hT.b
      obtain ⟨oc, or, m, h1, h2, hd, ho, hr, ok⟩ := hT.ex
      have hb := hT.b
      have hbo := Both.both_c h1 h2 hd ok (by omega) (z k).1 (z k).2.1 (z k).2.2.1 hx.p (z k).2.2.2
      have ok2 := Both.act_ok ok (z k).1 (z k).2.1 (z k).2.2.1 (z k).2.2.2
      clear hx h1 h2 hd ok hc hT
      generalize Both.act m (z k).1 (z k).2.1 (z k).2.2.1 (z k).2.2.2 = m2 at hbo ok2
      generalize Both.cellsA (z k).1 (z k).2.1 (z k).2.2.1 (z k).2.2.2 = cs at ha hbo
      replace hb := Lib.hid hb
      replace hbo := Lib.hid hbo
      replace ok2 := Lib.hid ok2
      replace ho := Lib.hid ho
      replace hr := Lib.hid hr
      go_wp2_with (refine Calm.wpList_val rfl (Calm.run_op_load rfl rfl ha) ?_)
      refine hbo.out.mono ?_
      rintro e w' hh
      have hT := LT.told hb.out ho.out hr.out ok2.out hh
      obtain ⟨rfl, _⟩ := hh
      replace hT := Lib.hid hT
      clear hb ho hr ok2 hbo ha
      go_wp2_with fail
      go_roundw
      case rel => exact ⟨k + 1, by omega, by go_num, hT.out⟩
      case measure => simp [intOf]; omega
    · obtain rfl : k = len := by omega
      obtain ⟨oc, or, m, h1, h2, hd, ho, hr, ok⟩ := hT.ex
      have hsm := Same.same_c h1 h2 ok
      have hb := Lib.hid hT.b
      clear h1 h2 hd ho hr ok hT hc
      go_wp2_with fail
      refine hsm.mono ?_
      rintro e w' ⟨rfl, hh⟩
      have hbb : Below w.heap.size w w' := by
        obtain ⟨n, rfl⟩ := hh.n
        exact below_drewN hb.out n
      clear hh hsm
      go_wp2_with fail
      go_ret
      exact ⟨rfl, hbb⟩
set_option maxHeartbeats 2000000 in
set_option maxRecDepth 100000 in
theorem does_row (n : Int) (_ : (Lit.int .i64 n).wf = true) (p : Int) (_ : (Lit.int .i64 p).wf = true) (d : Int) (_ : (Lit.int .i64 d).wf = true) {v : Value} {w : World} (a : Option Addr × Nat × Nat × (Nat → Int × Int × Int × ByteArray)) (h : OpenA.ActsAt w v a) :
    Calls Try.prog 6 #[.int .i64 n, .int .i64 p, .int .i64 d, v] w fun e w' => e = .returned (.bool true) ∧ Below w.heap.size w w' := by
  obtain ⟨a, len, cap, z⟩ := a
  obtain ⟨rfl, hc⟩ := h
  simp only at hc
  by_cases hl : len ≤ 60
  · cases hs : sizes n p d with
    | true =>
      obtain ⟨n, rfl⟩ : ∃ k : Nat, n = (k : Int) := ⟨n.toNat, by unfold sizes within at hs; simp at hs; omega⟩
      obtain ⟨p, rfl⟩ : ∃ k : Nat, p = (k : Int) := ⟨p.toNat, by unfold sizes within at hs; simp at hs; omega⟩
      obtain ⟨d, rfl⟩ : ∃ k : Nat, d = (k : Int) := ⟨d.toNat, by unfold sizes within at hs; simp at hs; omega⟩
      exact does_main a len cap n p d z w hl hs hc
    | false =>
      have hnew := new_no n p d hs
      have hrew := new_rno n p d hs
      have q1 : decide (60 < (len : Int)) = false := decide_eq_false (by omega)
      have q2 : decide (60 < len) = false := decide_eq_false (by omega)
      clear hc hs
      go_enter Try.func6, Try.ntmps6
      go_wp2_with fail
      refine (ChipW.works_any _).mono ?_
      rintro e w1 ⟨rfl, hb1⟩
      go_wp2_with fail
      refine (hnew _).mono ?_
      rintro e w2 ⟨rfl, rfl⟩
      go_wp2_with fail
      refine (hrew _).mono ?_
      rintro e w3 ⟨rfl, rfl⟩
      go_wp2_with fail
      go_ret
      exact ⟨rfl, hb1⟩
  · have q1 : decide (60 < (len : Int)) = true := decide_eq_true (by omega)
    have q2 : decide (60 < len) = true := decide_eq_true (by omega)
    clear hc hl
    go_enter Try.func6, Try.ntmps6
    go_wp2_with fail
    refine (ChipW.works_any _).mono ?_
    rintro e w1 ⟨rfl, hb1⟩
    go_wp2_with fail
    go_ret
    exact ⟨rfl, hb1⟩
end Go.Proofs.Ytfjnjhlmmdeilaa.Does
