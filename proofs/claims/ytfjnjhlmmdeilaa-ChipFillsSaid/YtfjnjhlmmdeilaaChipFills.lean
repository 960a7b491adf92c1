/- cenotaphlaw13.ChipFills: it returns true, whatever it is given. -/
import Derived.Test.YtfjnjhlmmdeilaaChipW
import Derived.Test.YtfjnjhlmmdeilaaOpen
set_option linter.unusedVariables false
namespace Go.Proofs.Ytfjnjhlmmdeilaa.ChipFills
open Go.RowKit Go.Proofs.Ytfjnjhlmmdeilaa.ChipM Go.Proofs.Ytfjnjhlmmdeilaa.ChipA Go.Proofs.Ytfjnjhlmmdeilaa.ChipC

/-- A chip of which one block has these texts. -/
def ft (b : Nat) (ts : List ByteArray) : Chp := ⟨4, 6, 40, fun k => if k = b then ⟨ts, 0, false, none⟩ else Blk.blank, false, none⟩
theorem ft_new (b : Nat) : new 4 6 40 = ft b [] := by
  unfold new ft
  congr 1
  funext k
  split <;> rfl
theorem ft_blk (b : Nat) (ts : List ByteArray) : (ft b ts).blk b = ⟨ts, 0, false, none⟩ := if_pos rfl
theorem ft_there {b : Nat} (h : b < 4) (ts : List ByteArray) : there (ft b ts) (b : Int) = true := by
  unfold there within ft
  simp
  omega
theorem ft_next {b : Nat} (h : b < 4) (ts : List ByteArray) : next (ft b ts) (b : Int) = (ts.length : Int) := by
  unfold next at_
  rw [ft_there h, Int.toNat_natCast, ft_blk]
  rfl
theorem ft_ok {b : Nat} {ts : List ByteArray} (h : ts.length ≤ 6) : Ok (ft b ts) 0 := by
  refine ⟨by simp [ft], by simp [ft], by simp [ft], by simp [ft], by simp [ft], by simp [ft], fun k => ?_, fun k => ?_, fun n t e => by cases e⟩
  · show (if k = b then _ else _ : Blk).text.length ≤ 6
    split
    · exact h
    · exact Nat.zero_le _
  · show (if k = b then _ else _ : Blk).worn ≤ 0
    split <;> exact Nat.le_refl _
theorem ft_cut (b : Nat) (ts : List ByteArray) {s : ByteArray} (h : s.size ≤ 40) : cut (ft b ts) s = s := by
  unfold cut
  exact cut_short (d := 40) (by omega)
theorem ft_put {b : Nat} (hb : b < 4) {ts : List ByteArray} (hn : ts.length < 6) {s : ByteArray} (h : s.size ≤ 40) : doProgram (ft b ts) (b : Int) (ts.length : Int) s = (0, ft b (ts ++ [s])) := by
  have hm : mayPut (ft b ts) (b : Int) (ts.length : Int) s = true := by
    unfold mayPut
    rw [ft_there hb, ft_next hb]
    unfold within ft
    simp
    omega
  unfold doProgram
  rw [hm, Int.toNat_natCast]
  have e : ft b (ts ++ [s]) = put (ft b ts) b s := by
    unfold put setB
    rw [ft_cut b ts h, ft_blk]
    unfold ft
    congr 1
    funext k
    by_cases hk : k = b <;> simp [hk]
  rw [e]
  unfold deed
  rw [ft_blk]
  rfl
theorem ft_not {b : Nat} (hb : b < 4) {ts : List ByteArray} {s : ByteArray} (h : 40 < s.size ∨ 6 ≤ ts.length) : doProgram (ft b ts) (b : Int) (ts.length : Int) s = (1, ft b ts) := by
  have hm : mayPut (ft b ts) (b : Int) (ts.length : Int) s = false := by
    unfold mayPut
    rw [ft_there hb, ft_next hb]
    unfold within ft
    simp
    omega
  unfold doProgram
  rw [hm]
  rfl
theorem ft_read {b : Nat} (hb : b < 4) (ts : List ByteArray) (s : ByteArray) : readAt (ft b (ts ++ [s])) (b : Int) (ts.length : Int) = (s, true) := by
  unfold readAt at_
  rw [ft_there hb, Int.toNat_natCast, ft_blk, if_pos ⟨rfl, by unfold within; simp⟩]
  simp
theorem ft_erase {b : Nat} (hb : b < 4) (ts : List ByteArray) : (doErase (ft b ts) (b : Int)).1 = 0 ∧ next (doErase (ft b ts) (b : Int)).2 (b : Int) = 0 ∧ readAt (doErase (ft b ts) (b : Int)).2 (b : Int) 0 = (⟨#[]⟩, false) := by
  have e : doErase (ft b ts) (b : Int) = (0, ChipM.blank (ft b ts) b) := by
    unfold doErase
    rw [ft_there hb, Int.toNat_natCast]
    unfold deed
    rw [ft_blk]
    rfl
  have hb2 : (ChipM.blank (ft b ts) b).blk b = ⟨[], 1, false, none⟩ := by
    show (if b = b then _ else _ : Blk) = _
    rw [if_pos rfl, ft_blk]
  rw [e]
  refine ⟨rfl, ?_, ?_⟩
  · show next (ChipM.blank (ft b ts) b) (b : Int) = 0
    unfold next at_
    rw [Int.toNat_natCast, hb2]
    simp
  · show readAt (ChipM.blank (ft b ts) b) (b : Int) 0 = (⟨#[]⟩, false)
    unfold readAt at_
    rw [Int.toNat_natCast, hb2]
    simp [within]
structure At (w : World) (own : Nat → Prop) (c b : Nat) (ts : List ByteArray) (W : World) : Prop where
  h : ChipAt own W c (ft b ts)
  b : Below w.heap.size w W
  o : ∀ i, own i → w.heap.size ≤ i
attribute [irreducible] ft
theorem At.told {w W W' : World} {own : Nat → Prop} {c b : Nat} {ts us : List ByteArray} (h : At w own c b ts W) {r : Int × Chp} {e : Ending} (ht : ToldC own W c r e W') (hr : r.2 = ft b us) : At w own c b us W' :=
  ⟨by rw [← hr]; exact ht.h, h.b.trans (ht.f.below h.b.size h.o), h.o⟩
theorem At.drew {w W : World} {own : Nat → Prop} {c b : Nat} {ts : List ByteArray} (h : At w own c b ts W) : At w own c b ts W.drew := ⟨h.h.drewN 1, h.b.drew, h.o⟩
set_option maxHeartbeats 2000000 in
set_option maxRecDepth 100000 in
theorem fills_main (b : Nat) (hb : b < 4) (a : Option Addr) (len cap : Nat) (z : Nat → ByteArray) (w : World) (hl : len ≤ 60) (hc : ∀ i, i < len → ∃ x, a = some x ∧ w.cell? (x.add i) = some (.string (z i)) ∧ (x.add i).block < w.heap.size) :
    Calls Try.prog 4 #[.int .i64 (b : Int), .slice a len cap] w fun e w' => e = .returned (.bool true) ∧ Below w.heap.size w w' := by
  have hnew := new_c 4 6 40 (by decide +kernel)
  have q1 : decide (60 < (len : Int)) = false := decide_eq_false (by omega)
  have q2 : decide (60 < len) = false := decide_eq_false (by omega)
  have hb4 : (b : Int) < 4 := by omega
  go_enter Try.func4, Try.ntmps4
  go_wp2_with fail
  refine (ChipW.works_any _).mono ?_
  rintro e w1 ⟨rfl, hb1⟩
  go_wp2_with fail
  refine (hnew _).mono ?_
  rintro e w2 ⟨rfl, h2, f2⟩
  rw [ft_new b] at h2
  have hA : At w (fun k => k = w1.heap.size ∨ k = w1.heap.size + 1) (w1.heap.size + 1) b [] w2 :=
    ⟨h2, hb1.trans (f2.mono hb1.size), fun i hi => by have := hb1.size; omega⟩
  have hA := Lib.hid hA
  clear h2 f2 hb1 hnew
  generalize hown : (fun k => k = w1.heap.size ∨ k = w1.heap.size + 1) = own at hA
  generalize w1.heap.size + 1 = c at hA
  clear hown
  go_wp2_with fail
  clear q1 q2
  go_loopw [8, 9] (fun n i wr => ∃ (k : Nat) (ts : List ByteArray), k ≤ len ∧ ts.length ≤ 6 ∧ i = .int .i64 k ∧ n = .int .i64 (ts.length : Int) ∧ At w own c b ts wr) (fun _ i _ => len - (intOf i).toNat)
  case atStart => exact ⟨0, [], by omega, by simp, rfl, rfl, hA.out⟩
  case round =>
    obtain ⟨k, ts, hk, hts, rfl, rfl, hT⟩ := hrel
    clear hA
    by_cases hlt : k < len
    · obtain ⟨x, rfl, hx, hxb⟩ := hc k hlt
      have hx0 := (hT.b.cell hxb).trans hx
      clear hc
      generalize z k = s at hx hx0
      have pn := next_c hT.drew.h (ft_ok hts) (b : Int)
      rw [ft_next hb] at pn
      by_cases hbad : 40 < s.size ∨ 6 ≤ ts.length
      · have pp := program_c hT.drew.h (ft_ok hts) (b : Int) (ts.length : Int) s
        rw [ft_not hb hbad] at pp
        have hT := Lib.hid hT
        have hN0 : (0 : Int) ≤ (ts.length : Int) := by omega
        have hN6 : (ts.length : Int) ≤ 6 := by omega
        rcases hbad with hbad | hbad
        · have q3 : decide (40 < (s.size : Int)) = true := decide_eq_true (by omega)
          have q4 : decide (40 < s.size) = true := decide_eq_true hbad
          clear hbad
          go_wp2_with fail
          go_still_tail 9, (by kernel_rfl)
          still_call pn
          repeat still_step
          refine wpStill_nil ?_
          go_wp2_with fail
          refine pp.mono ?_
          rintro e w' ⟨rfl, h', f'⟩
          have hT' := Lib.hid (hT.out.drew.told (e := .returned (.int .i64 1)) ⟨rfl, h', f'⟩ rfl)
          have hx1 := (hT'.out.b.cell hxb).trans hx
          clear h' f' pp pn hx0
          go_wp2_with fail
          go_roundw
          case rel => exact ⟨k + 1, ts, by omega, hts, by go_num, rfl, hT'.out⟩
          case measure => simp [intOf]; omega
        · have hn6 : ts.length = 6 := by omega
          have hN6e : (ts.length : Int) = 6 := by omega
          by_cases hs : 40 < s.size
          · have q3 : decide (40 < (s.size : Int)) = true := decide_eq_true (by omega)
            have q4 : decide (40 < s.size) = true := decide_eq_true hs
            clear hbad hs hn6 hN6e
            go_wp2_with fail
            go_still_tail 9, (by kernel_rfl)
            still_call pn
            repeat still_step
            refine wpStill_nil ?_
            go_wp2_with fail
            refine pp.mono ?_
            rintro e w' ⟨rfl, h', f'⟩
            have hT' := Lib.hid (hT.out.drew.told (e := .returned (.int .i64 1)) ⟨rfl, h', f'⟩ rfl)
            have hx1 := (hT'.out.b.cell hxb).trans hx
            clear h' f' pp pn hx0
            go_wp2_with fail
            go_roundw
            case rel => exact ⟨k + 1, ts, by omega, hts, by go_num, rfl, hT'.out⟩
            case measure => simp [intOf]; omega
          · have q3 : decide (40 < (s.size : Int)) = false := decide_eq_false (by omega)
            have q4 : decide (40 < s.size) = false := decide_eq_false hs
            have q5 : decide (6 ≤ (ts.length : Int)) = true := decide_eq_true (by omega)
            have q6 : decide (6 ≤ ts.length) = true := decide_eq_true hbad
            clear hbad hs hn6 hN6e
            go_wp2_with fail
            go_still_tail 9, (by kernel_rfl)
            still_call pn
            repeat still_step
            refine wpStill_nil ?_
            go_wp2_with fail
            refine pp.mono ?_
            rintro e w' ⟨rfl, h', f'⟩
            have hT' := Lib.hid (hT.out.drew.told (e := .returned (.int .i64 1)) ⟨rfl, h', f'⟩ rfl)
            have hx1 := (hT'.out.b.cell hxb).trans hx
            clear h' f' pp pn hx0
            go_wp2_with fail
            go_roundw
            case rel => exact ⟨k + 1, ts, by omega, hts, by go_num, rfl, hT'.out⟩
            case measure => simp [intOf]; omega
      · have hs : s.size ≤ 40 := by omega
        have hn6 : ts.length < 6 := by omega
        have q3 : decide (40 < (s.size : Int)) = false := decide_eq_false (by omega)
        have q4 : decide (40 < s.size) = false := decide_eq_false (by omega)
        have q5 : decide (6 ≤ (ts.length : Int)) = false := decide_eq_false (by omega)
        have q6 : decide (6 ≤ ts.length) = false := decide_eq_false (by omega)
        have hN0 : (0 : Int) ≤ (ts.length : Int) := by omega
        have hN6 : (ts.length : Int) ≤ 6 := by omega
        have pp := program_c hT.drew.h (ft_ok hts) (b : Int) (ts.length : Int) s
        rw [ft_put hb hn6 hs] at pp
        have hT := Lib.hid hT
        clear hbad
        go_wp2_with fail
        go_still_tail 9, (by kernel_rfl)
        still_call pn
        repeat still_step
        refine wpStill_nil ?_
        go_wp2_with fail
        refine pp.mono ?_
        rintro e w' ⟨rfl, h', f'⟩
        have hT' := hT.out.drew.told (us := ts ++ [s]) (e := .returned (.int .i64 0)) ⟨rfl, h', f'⟩ rfl
        have hx1 := (hT'.b.cell hxb).trans hx
        have pr := read_c hT'.h (ft_ok (by simp; omega)) (b : Int) (ts.length : Int)
        rw [ft_read hb] at pr
        have hT' := Lib.hid hT'
        have hlen2 : Hid ((ts ++ [s]).length ≤ 6) := Lib.hid (by simp; omega)
        have hlen : Hid (((ts ++ [s]).length : Int) = (ts.length : Int) + 1) := Lib.hid (by simp)
        clear h' f' pp pn hx0 hn6
        go_wp2_with fail
        refine pr.mono ?_
        rintro e w'' ⟨rfl, rfl⟩
        go_wp2_with fail
        go_roundw
        case rel => exact ⟨k + 1, ts ++ [s], by omega, hlen2.out, by go_num, by rw [hlen.out], hT'.out⟩
        case measure => simp [intOf]; omega
    · obtain rfl : k = len := by omega
      have pn := next_c hT.h (ft_ok hts) (b : Int)
      rw [ft_next hb] at pn
      obtain ⟨e1, e2, e3⟩ := ft_erase hb ts
      have pe := erase_c hT.h (ft_ok hts) (by decide) (b : Int)
      have oke := (ft_ok (b := b) hts).erase (b : Int)
      generalize hr : doErase (ft b ts) (b : Int) = r at pe oke e1 e2 e3
      obtain ⟨r1, r2⟩ := r
      simp only at e1 e2 e3 oke
      subst e1
      have hT := Lib.hid hT
      clear hr hc
      go_wp2_with fail
      refine pn.mono ?_
      rintro e w' ⟨rfl, rfl⟩
      go_wp2_with fail
      refine pe.mono ?_
      rintro e w' ⟨rfl, h', f'⟩
      have pr := read_c h' oke (b : Int) 0
      have pn2 := next_c h' oke (b : Int)
      rw [e2] at pn2
      rw [e3] at pr
      have hfin := Lib.hid (hT.out.b.trans (f'.below hT.out.b.size hT.out.o))
      clear h' f' pe pn e2 e3
      go_wp2_with fail
      refine pr.mono ?_
      rintro e w'' ⟨rfl, rfl⟩
      go_wp2_with fail
      refine pn2.mono ?_
      rintro e w'' ⟨rfl, rfl⟩
      go_wp2_with fail
      go_ret
      exact ⟨rfl, hfin.out⟩
set_option maxHeartbeats 2000000 in
set_option maxRecDepth 100000 in
theorem fills_row (b : Int) (_ : (Lit.int .i64 b).wf = true) {v : Value} {w : World} (a : Option Addr × Nat × Nat × (Nat → ByteArray)) (h : Open.StrsAt w v a) :
    Calls Try.prog 4 #[.int .i64 b, v] w fun e w' => e = .returned (.bool true) ∧ Below w.heap.size w w' := by
  obtain ⟨a, len, cap, z⟩ := a
  obtain ⟨rfl, hc⟩ := h
  simp only at hc
  have hnew := new_c 4 6 40 (by decide +kernel)
  by_cases hl : len ≤ 60
  · have q1 : decide (60 < (len : Int)) = false := decide_eq_false (by omega)
    have q2 : decide (60 < len) = false := decide_eq_false (by omega)
    by_cases h0 : b < 0
    · clear hc hl
      go_enter Try.func4, Try.ntmps4
      go_wp2_with fail
      refine (ChipW.works_any _).mono ?_
      rintro e w1 ⟨rfl, hb1⟩
      go_wp2_with fail
      refine (hnew _).mono ?_
      rintro e w2 ⟨rfl, h2, f2⟩
      go_wp2_with fail
      go_ret
      exact ⟨rfl, hb1.trans (f2.mono hb1.size)⟩
    · by_cases h3 : 3 < b
      · clear hc hl
        go_enter Try.func4, Try.ntmps4
        go_wp2_with fail
        refine (ChipW.works_any _).mono ?_
        rintro e w1 ⟨rfl, hb1⟩
        go_wp2_with fail
        refine (hnew _).mono ?_
        rintro e w2 ⟨rfl, h2, f2⟩
        go_wp2_with fail
        go_ret
        exact ⟨rfl, hb1.trans (f2.mono hb1.size)⟩
      · obtain ⟨q, rfl⟩ : ∃ q : Nat, b = (q : Int) := ⟨b.toNat, by omega⟩
        exact fills_main q (by omega) a len cap z w hl hc
  · have q1 : decide (60 < (len : Int)) = true := decide_eq_true (by omega)
    have q2 : decide (60 < len) = true := decide_eq_true (by omega)
    clear hc hl
    go_enter Try.func4, Try.ntmps4
    go_wp2_with fail
    refine (ChipW.works_any _).mono ?_
    rintro e w1 ⟨rfl, hb1⟩
    go_wp2_with fail
    refine (hnew _).mono ?_
    rintro e w2 ⟨rfl, h2, f2⟩
    go_wp2_with fail
    go_ret
    exact ⟨rfl, hb1.trans (f2.mono hb1.size)⟩
end Go.Proofs.Ytfjnjhlmmdeilaa.ChipFills
