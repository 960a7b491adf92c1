/- page.each: what it hands out, in order. -/
import Derived.RangeFuncNested
import Derived.RangeFuncBound
import Derived.RangeFuncCalls
import Derived.RangeFuncLeaves
import Derived.Shelf.Abstract
import Derived.Shelf.RegionOpen
import Derived.WalkKit
import Derived.OwnWalkIn
import Derived.TacticsInMore
import Derived.LoopNIn
import Derived.LoopIn
import Derived.Test.YtobkeakbahkglaaPageCh
set_option linter.unusedVariables false
namespace Go.Proofs.Ytobkeakbahkglaa.PageE
open Go.RowKit Go.Shelf Go.Proofs.Ytobkeakbahkglaa.ChipM Go.Proofs.Ytobkeakbahkglaa.ChipA Go.Proofs.Ytobkeakbahkglaa.ChipC

attribute [local go_sem] Oper.semAt_some

/-- A page that is there: where it is, its bytes. -/
abbrev Ent := { x : Int × Int × ByteArray // x.2.2.size ≤ 256 }
abbrev encs (x : Ent) : Array Value := #[.agg #[.int .i64 x.1.1, .int .i64 x.1.2.1], .string x.1.2.2]
/-- No text is longer. -/
def Short (m : Chp) : Prop := ∀ b p : Int, (readAt m b p).1.size ≤ 256
def entry {m : Chp} (hT : Short m) (b p : Nat) : List Ent := if (readAt m (b : Int) (p : Int)).2 = true then [⟨((b : Int), (p : Int), (readAt m (b : Int) (p : Int)).1), hT _ _⟩] else []
def row {m : Chp} (hT : Short m) (b : Nat) : Nat → List Ent
  | 0 => []
  | p + 1 => row hT b p ++ entry hT b p
def upto {m : Chp} (hT : Short m) : Nat → List Ent
  | 0 => []
  | b + 1 => upto hT b ++ row hT b m.pages
theorem row_pre {m : Chp} (hT : Short m) (b p : Nat) : ∀ k, row hT b p <+: row hT b (p + k)
  | 0 => List.prefix_refl _
  | k + 1 => (row_pre hT b p k).trans (List.prefix_append _ _)
theorem upto_pre {m : Chp} (hT : Short m) (b : Nat) : ∀ k, upto hT b <+: upto hT (b + k)
  | 0 => List.prefix_refl _
  | k + 1 => (upto_pre hT b k).trans (List.prefix_append _ _)
theorem at_pre {m : Chp} (hT : Short m) {b p : Nat} (hb : b < m.n) (hp : p < m.pages) : upto hT b ++ row hT b p ++ entry hT b p <+: upto hT m.n := by
  obtain ⟨k, hk⟩ : ∃ k, m.n = (b + 1) + k := ⟨m.n - (b + 1), by omega⟩
  rw [hk]
  refine List.IsPrefix.trans ?_ (upto_pre hT (b + 1) k)
  rw [List.append_assoc]
  show upto hT b ++ row hT b (p + 1) <+: upto hT b ++ row hT b m.pages
  obtain ⟨j, hj⟩ : ∃ j, m.pages = (p + 1) + j := ⟨m.pages - (p + 1), by omega⟩
  rw [hj]
  exact (List.prefix_append_right_inj _).2 (row_pre hT b (p + 1) j)
/-- What a round keeps: what lay ahead of the loop but for what the loop may write; the chip's box. -/
def Kp (n₀ Bn : Nat) (W W' : World) : Prop := Below n₀ W W' ∧ W.heap.size ≤ W'.heap.size ∧ ∀ u, Boxed W Bn 43 u → Boxed W' Bn 43 u
theorem drewN_grown (W : World) (k : Nat) : W.grownBy (W.drewN k) none := ⟨rfl, rfl, rfl, Nat.le_refl _, fun _ _ _ => rfl⟩

/-- Between two rounds. -/
structure St (J : List Ent → World → Prop) (own : Nat → Prop) (n₀ Bn c : Nat) (m : Chp) (pre : List Ent) (W : World) : Prop where
  j : J pre W
  b : Boxed W Bn 43 (.pointer (some ⟨c, 0, none⟩))
  h : ChipAt own W c m
section
variable {J : List Ent → World → Prop} {own : Nat → Prop} {n₀ Bn c : Nat} {m : Chp} {pre pre' : List Ent} {W W' : World}
theorem St.round (h : St J own n₀ Bn c m pre W) (ho : ∀ k, own k → k < n₀) (hk : Kp n₀ Bn W W') (hj : J pre' W') : St J own n₀ Bn c m pre' W' :=
  ⟨hj, hk.2.2 _ h.b, h.h.same hk.2.1 fun k hk2 => hk.1.block k (ho k hk2)⟩
theorem St.drewN (h : St J own n₀ Bn c m pre W) (hJ : ∀ pre X q, J pre X → J pre (X.drewN q)) (q : Nat) : St J own n₀ Bn c m pre (W.drewN q) :=
  ⟨hJ _ _ q h.j, h.b, h.h.drewN q⟩
end
theorem pre_lt {m : Chp} (hT : Short m) {b p : Nat} (hb : b < m.n) (hp : p < m.pages) {x : Ent} (he : entry hT b p = [x]) : (upto hT b ++ row hT b p ++ [x] <+: upto hT m.n) ∧ (upto hT b ++ row hT b p).length < (upto hT m.n).length := by
  have h := at_pre hT hb hp
  rw [he] at h
  refine ⟨h, ?_⟩
  have := h.length_le
  rw [List.length_append, List.length_singleton] at this
  omega
set_option maxRecDepth 100000 in
set_option maxHeartbeats 2000000 in
theorem each1_in (n : Nat) (hn : 1 ≤ n) (l Bn n₀ c K : Nat) (own : Nat → Prop) {m : Chp} (hT : Short m) (ok : Ok m K) (ho : ∀ k, own k → k < n₀) (J Jx : List Ent → World → Prop)
    (hY : ∀ pre x W, J pre W → pre.length < (upto hT m.n).length → YieldAt Fence.wide (n - 1) Try.prog l (encs x) W fun e W' =>
      (e = .returned (.bool true) ∧ J (pre ++ [x]) W' ∧ Kp n₀ Bn W W') ∨ (e = .returned (.bool false) ∧ Jx (pre ++ [x]) W'))
    (hJ : ∀ pre X q, J pre X → J pre (World.drewN X q)) (W : World) (hBn : Boxed W Bn 43 (.pointer (some ⟨c, 0, none⟩))) (hc : ChipAt own W c m) (h0 : J [] W) :
    CallsIn Fence.wide n Try.prog 45 #[.func (.yield l) #[] #[], .pointer (some ⟨Bn, 0, none⟩)] W fun e W' => (∃ v, e = .returned v) ∧
      ((∃ ys, ys = upto hT m.n ∧ J ys W') ∨ (∃ pre, pre <+: upto hT m.n ∧ Jx pre W')) := by
  refine callsIn_of_wp Try.func45 rfl trivial ?_ rfl
  simp only [Try.ntmps45, List.size_toArray, List.length_cons, List.length_nil, Nat.reduceAdd, Nat.reduceSub, Array.replicate_succ, Array.replicate_zero, List.push_toArray, List.append_toArray, List.nil_append, List.cons_append]
  have hcB := hBn.cell
  have hnm : (m.n : Int) ≤ 64 := by have := ok.n1; omega
  have hpm : (m.pages : Int) ≤ 64 := by have := ok.p1; omega
  gi_wp2_with (refine ⟨trivial, ?_⟩; gi_at_call 46; refine (callsIn_wide.2 (size_c hc)).mono ?_; rintro e w' ⟨rfl, q, rfl⟩)
  have hS : Hid (St J own n₀ Bn c m (upto hT 0) (W.drewN q)) := Lib.hid (St.drewN ⟨h0, hBn, hc⟩ hJ q)
  clear h0 hcB hBn hc
  gi_loopw [17] (fun bv wr => ∃ b : Nat, b ≤ m.n ∧ bv = .int .i64 b ∧ Hid (St J own n₀ Bn c m (upto hT b) wr)) (fun bv _ => m.n - (intOf bv).toNat)
  case atStart => exact ⟨0, by omega, rfl, hS⟩
  case round =>
    clear hS
    obtain ⟨b, hb, rfl, hS⟩ := hrel
    by_cases hlb : b < m.n
    · have hlb2 : (b : Int) < (m.n : Int) := by omega
      gi_wp2
      have hS2 : Hid (St J own n₀ Bn c m (upto hT b ++ row hT b 0) wr) := Lib.hid (by simpa [row] using hS.out)
      clear hS
      gi_loopw [21] (fun pv wr => ∃ p : Nat, p ≤ m.pages ∧ pv = .int .i64 p ∧ Hid (St J own n₀ Bn c m (upto hT b ++ row hT b p) wr)) (fun pv _ => m.pages - (intOf pv).toNat)
      case atStart => exact ⟨0, by omega, rfl, hS2⟩
      case round =>
        clear hS2
        obtain ⟨p, hp, rfl, hS⟩ := hrel
        by_cases hlp : p < m.pages
        · have hlp2 : (p : Int) < (m.pages : Int) := by omega
          have hcB := hS.out.b.cell
          have pr := read_c hS.out.h ok (b : Int) (p : Int)
          have he : entry hT b p = if (readAt m (b : Int) (p : Int)).2 = true then [⟨((b : Int), (p : Int), (readAt m (b : Int) (p : Int)).1), hT _ _⟩] else [] := rfl
          have hrow : row hT b (p + 1) = row hT b p ++ entry hT b p := rfl
          cases hk : (readAt m (b : Int) (p : Int)).2 with
          | false =>
            rw [hk] at pr he
            rw [if_neg (by decide)] at he
            rw [he, List.append_nil] at hrow
            gi_wp2_with (refine ⟨trivial, ?_⟩; gi_at_call 47; refine (callsIn_wide.2 pr).mono ?_; rintro e w' ⟨rfl, rfl⟩)
            refine ⟨fun _ h => (by cases h), ?_⟩
            gi_wp2
            go_roundw
            case rel => exact ⟨p + 1, by omega, by go_num, by rw [hrow]; exact hS⟩
            case measure => simp [intOf]; omega
          | true =>
            rw [hk] at pr he
            rw [if_pos rfl] at he
            obtain ⟨hpre, hlen⟩ := pre_lt hT hlb hlp he
            have hrow2 : upto hT b ++ row hT b (p + 1) = upto hT b ++ row hT b p ++ [⟨((b : Int), (p : Int), (readAt m (b : Int) (p : Int)).1), hT _ _⟩] := by rw [hrow, he, List.append_assoc]
            obtain ⟨fn, tmps, assign, body, hy, hR⟩ := hY _ ⟨((b : Int), (p : Int), (readAt m (b : Int) (p : Int)).1), hT _ _⟩ wr hS.out.j hlen
            dsimp only [encs] at hy
            gi_wp2_with (refine ⟨trivial, ?_⟩; gi_at_call 47; refine (callsIn_wide.2 pr).mono ?_; rintro e w' ⟨rfl, rfl⟩)
            refine hR.mono ?_
            rintro e W3 (⟨rfl, hJ3, hk3⟩ | ⟨rfl, hJx3⟩)
            · have hS3 := Lib.hid (hS.out.round ho hk3 hJ3)
              gi_wp2
              go_roundw
              case rel => exact ⟨p + 1, by omega, by go_num, by rw [hrow2]; exact hS3⟩
              case measure => simp [intOf]; omega
            · gi_wp2
              refine bodyPost_ret (results_none rfl _ _ _) rfl ?_
              exact ⟨⟨_, rfl⟩, .inr ⟨_, hpre, hJx3⟩⟩
        · obtain rfl : p = m.pages := by omega
          gi_wp2
          go_roundw
          case rel => exact ⟨b + 1, by omega, by go_num, hS⟩
          case measure => simp [intOf]; omega
    · obtain rfl : b = m.n := by omega
      gi_wp2
      go_end0
      exact ⟨⟨_, rfl⟩, .inl ⟨_, rfl, hS.out.j⟩⟩
set_option maxHeartbeats 1000000 in
/-- each: the chip is boxed; the function value captures the box. -/
theorem each_in (n : Nat) (c : Option Addr) (w : World) :
    CallsIn Fence.wide n Try.prog 36 #[.pointer c] w fun e w' => e = .returned (.func (.func 45) #[] #[.pointer (some ⟨w.heap.size, 0, none⟩)]) ∧ w' = w.alloc (.cells #[.pointer c] 43) := by
  refine callsIn_of_wp Try.func36 rfl trivial ?_ rfl
  simp only [Try.ntmps36, List.size_toArray, List.length_cons, List.length_nil, Nat.reduceAdd, Nat.reduceSub, Array.replicate_succ, Array.replicate_zero, List.push_toArray, List.append_toArray, List.nil_append, List.cons_append]
  gi_wp2
  go_ret
  exact ⟨rfl, rfl⟩
theorem each_stops (n : Nat) (hn : 1 ≤ n) (Bn n₀ c K : Nat) (own : Nat → Prop) {m : Chp} (hT : Short m) (ok : Ok m K) (ho : ∀ k, own k → k < n₀) (w : World) (hn₀ : n₀ ≤ w.heap.size) (hBn : Boxed w Bn 43 (.pointer (some ⟨c, 0, none⟩))) (hc : ChipAt own w c m) :
    SeqStopsK Fence.wide n Try.prog 45 #[.pointer (some ⟨Bn, 0, none⟩)] encs (Kp n₀ Bn) (fun ys => ys = upto hT m.n) (fun pre => pre <+: upto hT m.n) (upto hT m.n).length w := fun l J Jx W hW hJ _ hY h0 => by
  have hb : Boxed W Bn 43 (.pointer (some ⟨c, 0, none⟩)) := (hW.block Bn hBn.lt).trans hBn
  have hcW : ChipAt own W c m := hc.same hW.size fun k hk => hW.block k (hc.lt k hk)
  exact each1_in n hn l Bn n₀ c K own hT ok ho J Jx hY (fun pre X q h => hJ _ _ _ none h (drewN_grown X q) (fun r e => by cases e)) W hb hcW h0
end Go.Proofs.Ytobkeakbahkglaa.PageE
