/- cenotaphlaw13.ChipFuse: it returns true, whatever it is given. -/
import Derived.Test.YtfjnjhlmmdeilaaChipW
set_option linter.unusedVariables false
namespace Go.Proofs.Ytfjnjhlmmdeilaa.ChipFuse
open Go.RowKit Go.Proofs.Ytfjnjhlmmdeilaa.ChipM Go.Proofs.Ytfjnjhlmmdeilaa.ChipA Go.Proofs.Ytfjnjhlmmdeilaa.ChipC

/-- A chip that so many programs were done with, one behind the other. -/
def fu (s t : ByteArray) (n i : Nat) : Chp := ⟨8, 32, 64, fun k => ⟨List.replicate (min 32 (i - 32 * k)) s, 0, false, none⟩, false, some (n - i, t)⟩
theorem fu_blk (s t : ByteArray) (n i k : Nat) : (fu s t n i).blk k = ⟨List.replicate (min 32 (i - 32 * k)) s, 0, false, none⟩ := rfl
theorem fu_ok {s t : ByteArray} {n i : Nat} (hn : n ≤ 200) : Ok (fu s t n i) 0 := by
  refine ⟨by simp [fu], by simp [fu], by simp [fu], by simp [fu], by simp [fu], by simp [fu], fun k => ?_, fun k => Nat.le_refl _, fun q u e => ?_⟩
  · rw [fu_blk, List.length_replicate]
    show _ ≤ 32
    omega
  · simp only [fu, Option.some.injEq, Prod.mk.injEq] at e
    omega
theorem fu_new (s t : ByteArray) (n : Nat) (hn : n ≤ 200) : setFuse (new 8 32 64) (n : Int) t = fu s t n 0 := by
  unfold setFuse new fu
  rw [if_pos (by omega)]
  have e : (min (n : Int) 1073741824).toNat = n - 0 := by omega
  rw [e]
  congr 1
  funext k
  rw [show 0 - 32 * k = 0 by omega]
  rfl
theorem fu_there {s t : ByteArray} {n i j : Nat} (hj : j < 256) : there (fu s t n i) ((j / 32 : Nat) : Int) = true := by
  unfold there within fu
  simp
  omega
theorem fu_may {s t : ByteArray} {n i : Nat} (hi : i < 256) (hs : s.size ≤ 64) (u : ByteArray) (hu : u.size ≤ 64) : mayPut (fu s t n i) ((i / 32 : Nat) : Int) ((i % 32 : Nat) : Int) u = true := by
  unfold mayPut next at_
  rw [fu_there hi, Int.toNat_natCast, fu_blk, List.length_replicate]
  have e : min 32 (i - 32 * (i / 32)) = i % 32 := by omega
  rw [e]
  unfold within fu
  simp
  omega
theorem fu_put {s t : ByteArray} {n i : Nat} (hi : i < n) (hn : n ≤ 200) (hs : s.size ≤ 64) : doProgram (fu s t n i) ((i / 32 : Nat) : Int) ((i % 32 : Nat) : Int) s = (0, fu s t n (i + 1)) := by
  unfold doProgram
  rw [fu_may (by omega) hs s hs, Int.toNat_natCast]
  have hb : burn (fu s t n i) = { fu s t n i with fuse := some (n - i - 1, t) } := rfl
  have hf : (fu s t n i).fuse = some (n - i - 1 + 1, t) := by
    show some (n - i, t) = some (n - i - 1 + 1, t)
    rw [show n - i - 1 + 1 = n - i by omega]
  have e : fu s t n (i + 1) = put (burn (fu s t n i)) (i / 32) s := by
    rw [hb]
    unfold put setB
    have hc : cut { fu s t n i with fuse := some (n - i - 1, t) } s = s := by
      unfold cut
      exact cut_short (d := 64) (by omega)
    rw [hc]
    unfold fu
    simp only
    congr 1
    funext k
    by_cases hk : k = i / 32
    · rw [if_pos hk]
      subst hk
      have e1 : min 32 (i + 1 - 32 * (i / 32)) = min 32 (i - 32 * (i / 32)) + 1 := by omega
      rw [e1, List.replicate_succ']
    · rw [if_neg hk]
      have e1 : min 32 (i + 1 - 32 * k) = min 32 (i - 32 * k) := by omega
      rw [e1]
  rw [e]
  unfold deed
  rw [fu_blk, hf]
  rfl
/-- Behind the last one. -/
def fin (s t : ByteArray) (n : Nat) : Chp := if t.toList.isEmpty = true then dieM (fu s t n n) else put (dieM (fu s t n n)) (n / 32) t
theorem fin_put {s t : ByteArray} {n : Nat} (hn : n ≤ 200) (hs : s.size ≤ 64) : doProgram (fu s t n n) ((n / 32 : Nat) : Int) ((n % 32 : Nat) : Int) s = (14, fin s t n) := by
  unfold doProgram
  rw [fu_may (by omega) hs s hs, Int.toNat_natCast]
  have hf : (fu s t n n).fuse = some (0, t) := by
    show some (n - n, t) = some (0, t)
    rw [Nat.sub_self]
  unfold deed fin
  rw [fu_blk, hf]
  rfl
theorem fin_dead (s t : ByteArray) (n : Nat) : (fin s t n).dead = true := by
  unfold fin
  split <;> rfl
theorem fin_ok {s t : ByteArray} {n : Nat} (hn : n ≤ 200) : Ok (fin s t n) 0 := by
  unfold fin
  split
  · exact (fu_ok hn).die
  · refine (fu_ok hn).die.put ?_ t
    show (List.replicate (min 32 (n - 32 * (n / 32))) s).length < 32
    rw [List.length_replicate]
    omega
theorem fin_again (s t u : ByteArray) (n : Nat) (b p : Int) : doProgram (fin s t n) b p u = (14, fin s t n) := by
  unfold doProgram
  rw [fin_dead]
  rfl
theorem fin_erase (s t : ByteArray) (n : Nat) (b : Int) : doErase (fin s t n) b = (14, fin s t n) := by
  unfold doErase
  rw [fin_dead]
  rfl
theorem fin_n (s t : ByteArray) (n : Nat) : (fin s t n).n = 8 := by
  unfold fin
  split <;> rfl
theorem fin_none {s t : ByteArray} {n : Nat} (hn : n ≤ 200) (ht : t.toList.isEmpty = true) : readAt (fin s t n) ((n / 32 : Nat) : Int) ((n % 32 : Nat) : Int) = (⟨#[]⟩, false) := by
  have e : fin s t n = dieM (fu s t n n) := by unfold fin; rw [if_pos ht]
  unfold readAt at_
  rw [e, Int.toNat_natCast, if_neg]
  rintro ⟨_, h⟩
  have hb : (dieM (fu s t n n)).blk (n / 32) = (fu s t n n).blk (n / 32) := rfl
  rw [hb, fu_blk, List.length_replicate] at h
  unfold within at h
  simp at h
  omega
theorem fin_some {s t : ByteArray} {n : Nat} (hn : n ≤ 200) (ht : t.toList.isEmpty = false) : readAt (fin s t n) ((n / 32 : Nat) : Int) ((n % 32 : Nat) : Int) = (t.extract 0 (min t.size 64), true) := by
  have e : fin s t n = put (dieM (fu s t n n)) (n / 32) t := by unfold fin; rw [if_neg (by simp [ht])]
  have hth : there (put (dieM (fu s t n n)) (n / 32) t) ((n / 32 : Nat) : Int) = true := fu_there (s := s) (t := t) (n := n) (i := n) (by omega)
  have hb : (put (dieM (fu s t n n)) (n / 32) t).blk (n / 32) = ⟨List.replicate (min 32 (n - 32 * (n / 32))) s ++ [t.extract 0 (min t.size 64)], 0, false, none⟩ := by
    show (if n / 32 = n / 32 then _ else _ : Blk) = _
    rw [if_pos rfl]
    rfl
  unfold readAt at_
  have hw : within ((n % 32 : Nat) : Int) 0 (((List.replicate (min 32 (n - 32 * (n / 32))) s ++ [t.extract 0 (min t.size 64)]).length : Int) - 1) = true := by
    have e1 : min 32 (n - 32 * (n / 32)) = n % 32 := by omega
    unfold within
    rw [List.length_append, List.length_replicate, e1]
    simp
    omega
  rw [e, Int.toNat_natCast, hb, if_pos ⟨hth, hw⟩]
  · have e1 : n % 32 = (List.replicate (min 32 (n - 32 * (n / 32))) s).length := by rw [List.length_replicate]; omega
    rw [Int.toNat_natCast, e1, List.getD_eq_getElem?_getD, List.getElem?_append_right (Nat.le_refl _), Nat.sub_self]
    rfl
theorem rev_erase {s t : ByteArray} {n : Nat} : (revive (fin s t n)).dead = false ∧ (doErase (revive (fin s t n)) 7).1 = 0 := by
  refine ⟨rfl, ?_⟩
  have ht : there (revive (fin s t n)) 7 = true := by
    unfold there
    rw [show (revive (fin s t n)).n = 8 from fin_n s t n]
    rfl
  have hb : ((revive (fin s t n)).blk 7).bad = false ∧ ((revive (fin s t n)).blk 7).fails = none := by
    show ((fin s t n).blk 7).bad = false ∧ ((fin s t n).blk 7).fails = none
    unfold fin
    split
    · exact ⟨rfl, rfl⟩
    · show ((if 7 = n / 32 then _ else _ : Blk).bad = false ∧ (if 7 = n / 32 then _ else _ : Blk).fails = none)
      split <;> exact ⟨rfl, rfl⟩
  unfold doErase
  rw [ht, if_neg (by rw [show (revive (fin s t n)).dead = false from rfl]; simp), if_pos rfl]
  show (deed (revive (fin s t n)) 7 _ _ _).1 = 0
  unfold deed
  rw [hb.1, hb.2]
  rfl
structure At (w : World) (own : Nat → Prop) (c : Nat) (m : Chp) (W : World) : Prop where
  h : ChipAt own W c m
  b : Below w.heap.size w W
  o : ∀ i, own i → w.heap.size ≤ i
theorem At.told {w W W' : World} {own : Nat → Prop} {c : Nat} {m m' : Chp} (h : At w own c m W) {r : Int × Chp} {e : Ending} (ht : ToldC own W c r e W') (hr : r.2 = m') : At w own c m' W' :=
  ⟨by rw [← hr]; exact ht.h, h.b.trans (ht.f.below h.b.size h.o), h.o⟩
attribute [irreducible] fu fin
set_option maxHeartbeats 4000000 in
set_option maxRecDepth 100000 in
theorem fuse_main (n : Nat) (t s : ByteArray) (hn : n ≤ 200) (hs : s.size ≤ 64) (ht : t.size ≤ 300) (w : World) :
    Calls Try.prog 5 #[.int .i64 (n : Int), .string t, .string s] w fun e w' => e = .returned (.bool true) ∧ Below w.heap.size w w' := by
  have hnew := new_c 8 32 64 (by decide +kernel)
  have q1 : decide (200 < (n : Int)) = false := decide_eq_false (by omega)
  have q2 : decide (200 < n) = false := decide_eq_false (by omega)
  have q3 : decide (64 < (s.size : Int)) = false := decide_eq_false (by omega)
  have q4 : decide (64 < s.size) = false := decide_eq_false (by omega)
  have q5 : decide (300 < (t.size : Int)) = false := decide_eq_false (by omega)
  have q6 : decide (300 < t.size) = false := decide_eq_false (by omega)
  have hnn : (n : Int) ≤ 200 := by omega
  go_enter Try.func5, Try.ntmps5
  go_wp2_with fail
  refine (ChipW.works_any _).mono ?_
  rintro e w1 ⟨rfl, hb1⟩
  go_wp2_with fail
  refine (hnew _).mono ?_
  rintro e w2 ⟨rfl, h2, f2⟩
  have pf := fuse_c h2 (n : Int) (by omega) t
  have hbb := hb1.trans (f2.mono hb1.size)
  clear hnew h2
  go_wp2_with fail
  refine pf.mono ?_
  rintro e w3 ⟨rfl, ⟨own, h3, o3⟩, f3⟩
  rw [fu_new s t n hn] at h3
  have hA : At w own (w1.heap.size + 1) (fu s t n 0) w3 := by
    have hw1 := hb1.size
    have hw2 := hbb.size
    refine ⟨h3, hbb.trans (f3.below hbb.size fun k hk => ?_), fun i hi => ?_⟩
    · rcases hk with rfl | rfl <;> omega
    · rcases o3 i hi with (rfl | rfl) | hi <;> omega
  have hA := Lib.hid hA
  clear h3 o3 f3 f2 hbb hb1 pf q1 q2 q3 q4 q5 q6
  generalize w1.heap.size + 1 = c at hA
  go_wp2_with fail
  go_loopw [10] (fun i wr => ∃ k : Nat, k ≤ n ∧ i = .int .i64 k ∧ At w own c (fu s t n k) wr) (fun i _ => n - (intOf i).toNat)
  case atStart => exact ⟨0, by omega, rfl, hA.out⟩
  case round =>
    obtain ⟨k, hk, rfl, hT⟩ := hrel
    clear hA
    have c1 : ((k / 32 : Nat) : Int) = (k : Int) / 32 := by omega
    have c2 : ((k % 32 : Nat) : Int) = (k : Int) % 32 := by omega
    by_cases hlt : k < n
    · have pp := program_c hT.h (fu_ok hn) ((k / 32 : Nat) : Int) ((k % 32 : Nat) : Int) s
      rw [fu_put hlt hn hs, c1, c2] at pp
      have hT := Lib.hid hT
      have hd : Hid ((fu s t n (k + 1)).dead = false) := Lib.hid (by unfold fu; rfl)
      clear c1 c2
      go_wp2_with fail
      refine pp.mono ?_
      rintro e w' ⟨rfl, h', f'⟩
      have hT' := Lib.hid (hT.out.told (m' := fu s t n (k + 1)) (e := .returned (.int .i64 0)) ⟨rfl, h', f'⟩ rfl)
      have pd := dead_c h'
      rw [hd.out] at pd
      clear h' f' pp
      go_wp2_with fail
      refine pd.mono ?_
      rintro e w'' ⟨rfl, rfl⟩
      go_wp2_with fail
      go_roundw
      case rel => exact ⟨k + 1, by omega, by go_num, hT'.out⟩
      case measure => simp [intOf]; omega
    · obtain rfl : k = n := by omega
      have pp := program_c hT.h (fu_ok hn) ((k / 32 : Nat) : Int) ((k % 32 : Nat) : Int) s
      rw [fin_put hn hs, c1, c2] at pp
      have okf : Ok (fin s t k) 0 := fin_ok hn
      have hd := Lib.hid (fin_dead s t k)
      have hag := Lib.hid (fin_again s t s k ((k : Int) / 32) ((k : Int) % 32))
      have her := Lib.hid (fin_erase s t k 7)
      have hrv := Lib.hid (rev_erase (s := s) (t := t) (n := k))
      have okr := okf.revive
      have hT := Lib.hid hT
      obtain ⟨r1, r2, hrd, hcond, hrr⟩ : ∃ r1 r2, readAt (fin s t k) ((k / 32 : Nat) : Int) ((k % 32 : Nat) : Int) = (r1, r2) ∧ (t.toList.isEmpty = !r2) ∧ (r2 = true → r1 = t.extract 0 (min t.size 64)) := by
        cases he : t.toList.isEmpty with
        | true => exact ⟨_, _, fin_none hn he, rfl, fun h => by cases h⟩
        | false => exact ⟨_, _, fin_some hn he, rfl, fun _ => rfl⟩
      rw [c1, c2] at hrd
      clear c1 c2
      go_wp2_with fail
      refine pp.mono ?_
      rintro e w4 ⟨rfl, h4, f4⟩
      have hT4 := hT.out.told (m' := fin s t k) (e := .returned (.int .i64 14)) ⟨rfl, h4, f4⟩ rfl
      have pr := read_c h4 okf ((k : Int) / 32) ((k : Int) % 32)
      have pa := program_c h4 okf ((k : Int) / 32) ((k : Int) % 32) s
      rw [hag.out] at pa
      rw [hrd] at pr
      have hT4 := Lib.hid hT4
      clear h4 f4 pp hrd
      go_wp2_with fail
      refine pr.mono ?_
      rintro e w'' ⟨rfl, rfl⟩
      go_wp2_with fail
      refine pa.mono ?_
      rintro e w5 ⟨rfl, h5, f5⟩
      have hT5 := hT4.out.told (m' := fin s t k) (e := .returned (.int .i64 14)) ⟨rfl, h5, f5⟩ rfl
      have pe := erase_c h5 okf (by decide) 7
      rw [her.out] at pe
      have hT5 := Lib.hid hT5
      clear h5 f5 pr pa
      go_wp2_with fail
      refine pe.mono ?_
      rintro e w6 ⟨rfl, h6, f6⟩
      have hT6 := hT5.out.told (m' := fin s t k) (e := .returned (.int .i64 14)) ⟨rfl, h6, f6⟩ rfl
      have pd := dead_c h6
      rw [hd.out] at pd
      have pv := revive_c h6
      have hT6 := Lib.hid hT6
      clear h6 f6 pe
      go_wp2_with fail
      refine pd.mono ?_
      rintro e w'' ⟨rfl, rfl⟩
      go_wp2_with fail
      refine pv.mono ?_
      rintro e w7 ⟨rfl, h7, f7⟩
      have hb7 := hT6.out.b.trans (f7.below hT6.out.b.size hT6.out.o)
      have pd2 := dead_c h7
      rw [hrv.out.1] at pd2
      have pe2 := erase_c h7 okr (by decide) 7
      have hfin : ∀ (r : Int × Chp) (e : Ending) (w8 : World), ToldC own w7 c r e w8 → Below w.heap.size w w8 := fun _ _ _ hh => hb7.trans (hh.f.below hb7.size hT6.out.o)
      have hfin := Lib.hid hfin
      generalize hR : doErase (revive (fin s t k)) 7 = R at pe2
      have hR0 : R.1 = 0 := by rw [← hR]; exact hrv.out.2
      obtain ⟨R1, R2⟩ := R
      simp only at hR0
      subst hR0
      clear h7 f7 pd pv hb7 hR hT hT4 hT5 hT6
      cases r2 with
      | false =>
        have ht1 : t.toList.isEmpty = true := hcond
        have ht2 : t.toList = [] := by simpa using ht1
        have ht3 : (!t.toList.isEmpty) = false := by rw [ht1]; rfl
        clear hcond
        go_wp2_with fail
        refine pd2.mono ?_
        rintro e w'' ⟨rfl, rfl⟩
        go_wp2_with fail
        refine pe2.mono ?_
        rintro e w8 ⟨rfl, h8, f8⟩
        have hend := Lib.hid (hfin (0, R2) _ _ ⟨rfl, h8, f8⟩)
        clear h8 f8 hfin
        go_wp2_with fail
        go_ret
        exact ⟨rfl, hend.out⟩
      | true =>
        have ht1 : t.toList.isEmpty = false := hcond
        have ht2 : ¬ t.toList = [] := by simpa using ht1
        have ht3 : (!t.toList.isEmpty) = true := by rw [ht1]; rfl
        have hr1 := hrr rfl
        clear hcond hrr
        by_cases h64 : 64 < t.size
        · rw [cut_long h64] at hr1
          subst hr1
          go_wp2_with fail
          refine pd2.mono ?_
          rintro e w'' ⟨rfl, rfl⟩
          go_wp2_with fail
          refine pe2.mono ?_
          rintro e w8 ⟨rfl, h8, f8⟩
          have hend := Lib.hid (hfin (0, R2) _ _ ⟨rfl, h8, f8⟩)
          clear h8 f8 hfin
          go_wp2_with fail
          go_ret
          exact ⟨rfl, hend.out⟩
        · rw [cut_short h64] at hr1
          subst hr1
          go_wp2_with fail
          refine pd2.mono ?_
          rintro e w'' ⟨rfl, rfl⟩
          go_wp2_with fail
          refine pe2.mono ?_
          rintro e w8 ⟨rfl, h8, f8⟩
          have hend := Lib.hid (hfin (0, R2) _ _ ⟨rfl, h8, f8⟩)
          clear h8 f8 hfin
          go_wp2_with fail
          go_ret
          exact ⟨rfl, hend.out⟩
set_option maxHeartbeats 4000000 in
set_option maxRecDepth 100000 in
theorem fuse_row (n : Int) (_ : (Lit.int .i64 n).wf = true) (t : ByteArray) (_ : t.size ≤ 140737488351232) (s : ByteArray) (_ : s.size ≤ 140737488351232) (w : World) :
    Calls Try.prog 5 #[.int .i64 n, .string t, .string s] w fun e w' => e = .returned (.bool true) ∧ Below w.heap.size w w' := by
  have hnew := new_c 8 32 64 (by decide +kernel)
  by_cases h0 : n < 0
  · go_enter Try.func5, Try.ntmps5
    go_wp2_with fail
    refine (ChipW.works_any _).mono ?_
    rintro e w1 ⟨rfl, hb1⟩
    go_wp2_with fail
    refine (hnew _).mono ?_
    rintro e w2 ⟨rfl, h2, f2⟩
    go_wp2_with fail
    go_ret
    exact ⟨rfl, hb1.trans (f2.mono hb1.size)⟩
  · by_cases h1 : 200 < n
    · go_enter Try.func5, Try.ntmps5
      go_wp2_with fail
      refine (ChipW.works_any _).mono ?_
      rintro e w1 ⟨rfl, hb1⟩
      go_wp2_with fail
      refine (hnew _).mono ?_
      rintro e w2 ⟨rfl, h2, f2⟩
      go_wp2_with fail
      go_ret
      exact ⟨rfl, hb1.trans (f2.mono hb1.size)⟩
    · by_cases h2 : 64 < s.size
      · have q3 : decide (64 < (s.size : Int)) = true := decide_eq_true (by omega)
        have q4 : decide (64 < s.size) = true := decide_eq_true h2
        go_enter Try.func5, Try.ntmps5
        go_wp2_with fail
        refine (ChipW.works_any _).mono ?_
        rintro e w1 ⟨rfl, hb1⟩
        go_wp2_with fail
        refine (hnew _).mono ?_
        rintro e w2 ⟨rfl, h2, f2⟩
        go_wp2_with fail
        go_ret
        exact ⟨rfl, hb1.trans (f2.mono hb1.size)⟩
      · have q3 : decide (64 < (s.size : Int)) = false := decide_eq_false (by omega)
        have q4 : decide (64 < s.size) = false := decide_eq_false h2
        by_cases h3 : 300 < t.size
        · have q5 : decide (300 < (t.size : Int)) = true := decide_eq_true (by omega)
          have q6 : decide (300 < t.size) = true := decide_eq_true h3
          go_enter Try.func5, Try.ntmps5
          go_wp2_with fail
          refine (ChipW.works_any _).mono ?_
          rintro e w1 ⟨rfl, hb1⟩
          go_wp2_with fail
          refine (hnew _).mono ?_
          rintro e w2 ⟨rfl, h2, f2⟩
          go_wp2_with fail
          go_ret
          exact ⟨rfl, hb1.trans (f2.mono hb1.size)⟩
        · obtain ⟨k, rfl⟩ : ∃ k : Nat, n = (k : Int) := ⟨n.toNat, by omega⟩
          exact fuse_main k t s (by omega) (by omega) (by omega) w
end Go.Proofs.Ytfjnjhlmmdeilaa.ChipFuse
