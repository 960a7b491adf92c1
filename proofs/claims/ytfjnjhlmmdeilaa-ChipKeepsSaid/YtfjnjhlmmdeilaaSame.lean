/- The walk of `Same`: where both are as one model says, it holds. -/
import Derived.Test.YtfjnjhlmmdeilaaBoth
set_option linter.unusedVariables false
namespace Go.Proofs.Ytfjnjhlmmdeilaa.Same
open Go.RowKit Go.Proofs.Ytfjnjhlmmdeilaa.ChipM Go.Proofs.Ytfjnjhlmmdeilaa.ChipA Go.Proofs.Ytfjnjhlmmdeilaa.RefA Go.Proofs.Ytfjnjhlmmdeilaa.ChipC

structure SA (oc or : Nat → Prop) (w : World) (c r : Nat) (m : Chp) (W : World) : Prop where
  a : ChipAt oc W c m
  b : RefAt or W r m
  n : ∃ n, W = w.drewN n
section
variable {oc or : Nat → Prop} {w W : World} {c r K : Nat} {m : Chp}
theorem SA.drewN (h : SA oc or w c r m W) (n : Nat) : SA oc or w c r m (W.drewN n) := by
  obtain ⟨k, hk⟩ := h.n
  exact ⟨h.a.drewN n, h.b.drewN n, k + n, by rw [hk, World.drewN_drewN]⟩
theorem bne_self_int (x : Int) : (x != x) = false := by simp
set_option maxHeartbeats 4000000 in
set_option maxRecDepth 100000 in
theorem same_c (h1 : ChipAt oc w c m) (h2 : RefAt or w r m) (ok : Ok m K) :
    Calls Try.prog 21 #[.pointer (some ⟨c, 0, none⟩), .pointer (some ⟨r, 0, none⟩)] w fun e w' => e = .returned (.bool true) ∧ SA oc or w c r m w' := by
  have hS : SA oc or w c r m w := ⟨h1, h2, 0, rfl⟩
  clear h1 h2
  have hn1 := ok.n1
  have hp1 := ok.p1
  have hd1 := ok.d1
  have hn0 : (0 : Int) ≤ (m.n : Int) := by omega
  have hp0 : (0 : Int) ≤ (m.pages : Int) := by omega
  go_enter Try.func21, Try.ntmps21
  go_wp2_with fail
  go_loopw [5] (fun i wr => ∃ z : Int, -1 ≤ z ∧ z ≤ (m.n : Int) + 1 ∧ i = .int .i64 z ∧ SA oc or w c r m wr) (fun i _ => ((m.n : Int) + 1 - intOf i).toNat)
  case atStart => exact ⟨-1, by omega, by omega, rfl, hS⟩
  case round =>
    clear hS
    obtain ⟨z, hz0, hz1, rfl, hS⟩ := hrel
    obtain ⟨rb, cap, cs, pg, fu, tx, hr⟩ := hS.b
    have c0 := hr.c0
    by_cases hlz : z ≤ (m.n : Int)
    · have pt := there_r hS.b ok z
      have p1 := fun n => next_c (hS.a.drewN n) ok z
      have p2 := fun n => next_r (hS.b.drewN n) ok z
      have p3 := fun n => bad_c (hS.a.drewN n) ok z
      have p4 := fun n => worn_c (hS.a.drewN n) ok z
      generalize next m z = nx at p1 p2
      cases ht : there m z with
      | false =>
        rw [ht] at pt
        have e3 : bad m z = true := by unfold bad; rw [ht]; rfl
        have e4 : worn m z = 0 := by unfold worn; rw [ht]; rfl
        rw [e3] at p3
        rw [e4] at p4
        have hS := Lib.hid hS
        clear hr e3 e4
        go_wp2_with fail
        refine pt.mono ?_
        rintro e w' ⟨rfl, rfl⟩
        go_wp2_with fail
        go_quiet ((first | (go_at_call 12; exact Calls.quiet_of_same (p1 _)) | (go_at_call 38; exact Calls.quiet_of_same (p2 _)) | (go_at_call 22; exact Calls.quiet_of_same (p3 _)) | (go_at_call 13; exact Calls.quiet_of_same (p4 _))))
        go_wp2_with fail
        go_loopw [7] (fun i wr2 => ∃ q : Int, -1 ≤ q ∧ q ≤ (m.pages : Int) + 1 ∧ i = .int .i64 q ∧ Hid (SA oc or w c r m wr2)) (fun i _ => ((m.pages : Int) + 1 - intOf i).toNat)
        case atStart => exact ⟨-1, by omega, by omega, rfl, Lib.hid (hS.out.drewN _)⟩
        case round =>
          clear hS c0
          obtain ⟨q, hq0, hq1, rfl, hS⟩ := hrel
          obtain ⟨rb, cap, cs, pg, fu, tx, hr⟩ := hS.out.b
          have c1 := hr.c1
          by_cases hlq : q ≤ (m.pages : Int)
          · have r1 := read_c hS.out.a ok z q
            have r2 := read_r hS.out.b ok z q
            generalize (readAt m z q).1 = t at r1 r2
            generalize (readAt m z q).2 = u at r1 r2
            go_wp2_with fail
            refine r1.mono ?_
            rintro e w' ⟨rfl, rfl⟩
            go_wp2_with fail
            refine r2.mono ?_
            rintro e w' ⟨rfl, rfl⟩
            go_wp2_with fail
            go_roundw
            case rel => exact ⟨q + 1, by omega, by omega, by go_num, hS⟩
            case measure => simp [intOf]; omega
          · have c0 := hr.c0
            go_wp2_with fail
            go_roundw
            case rel => exact ⟨z + 1, by omega, by omega, by go_num, hS.out⟩
            case measure => simp [intOf]; omega
      | true =>
        obtain ⟨k, rfl, hk⟩ := there_of ht
        rw [ht] at pt
        have e3 : bad m (k : Int) = (m.blk k).bad := by unfold bad at_; rw [ht]; rfl
        have e4 : worn m (k : Int) = ((m.blk k).worn : Int) := by unfold worn at_; rw [ht]; rfl
        rw [e3] at p3
        rw [e4] at p4
        have b1 := hr.b1 hk
        have b2 := hr.b2 hk
        generalize ((m.blk k).worn : Int) = wk at p4 b1
        generalize (m.blk k).bad = bk at p3 b2
        have hk2 : (k : Int) < (m.n : Int) := by omega
        have hS := Lib.hid hS
        clear hr e3 e4
        go_wp2_with fail
        refine pt.mono ?_
        rintro e w' ⟨rfl, rfl⟩
        go_wp2_with fail
        go_quiet ((first | (go_at_call 12; exact Calls.quiet_of_same (p1 _)) | (go_at_call 38; exact Calls.quiet_of_same (p2 _)) | (go_at_call 22; exact Calls.quiet_of_same (p3 _)) | (go_at_call 13; exact Calls.quiet_of_same (p4 _))))
        go_wp2_with fail
        go_loopw [7] (fun i wr2 => ∃ q : Int, -1 ≤ q ∧ q ≤ (m.pages : Int) + 1 ∧ i = .int .i64 q ∧ Hid (SA oc or w c r m wr2)) (fun i _ => ((m.pages : Int) + 1 - intOf i).toNat)
        case atStart => exact ⟨-1, by omega, by omega, rfl, Lib.hid (hS.out.drewN _)⟩
        case round =>
          clear hS c0
          obtain ⟨q, hq0, hq1, rfl, hS⟩ := hrel
          obtain ⟨rb, cap, cs, pg, fu, tx, hr⟩ := hS.out.b
          have c1 := hr.c1
          by_cases hlq : q ≤ (m.pages : Int)
          · have r1 := read_c hS.out.a ok (k : Int) q
            have r2 := read_r hS.out.b ok (k : Int) q
            generalize (readAt m (k : Int) q).1 = t at r1 r2
            generalize (readAt m (k : Int) q).2 = u at r1 r2
            go_wp2_with fail
            refine r1.mono ?_
            rintro e w' ⟨rfl, rfl⟩
            go_wp2_with fail
            refine r2.mono ?_
            rintro e w' ⟨rfl, rfl⟩
            go_wp2_with fail
            go_roundw
            case rel => exact ⟨q + 1, by omega, by omega, by go_num, hS⟩
            case measure => simp [intOf]; omega
          · have c0 := hr.c0
            go_wp2_with fail
            go_roundw
            case rel => exact ⟨(k : Int) + 1, by omega, by omega, by go_num, hS.out⟩
            case measure => simp [intOf]; omega
    · have ps := size_c hS.a
      have hS := Lib.hid hS
      clear hr
      go_wp2_with fail
      refine ps.mono ?_
      rintro e w' ⟨rfl, n, rfl⟩
      have hT := hS.out.drewN n
      generalize wr.drewN n = w2 at hT ⊢
      clear hS ps c0
      obtain ⟨rb, cap, cs, pg, fu, tx, hr⟩ := hT.b
      have pd := fun n => dead_c (hT.a.drewN n)
      have c0 := hr.c0
      have c1 := hr.c1
      have c2 := hr.c2
      have c3 := hr.c3
      generalize m.dead = dd at pd c3
      have hT := Lib.hid hT
      clear hr
      go_wp2_with fail
      go_quiet ((go_at_call 17; exact Calls.quiet_of_same (pd _)))
      go_wp2_with fail
      go_ret
      exact ⟨rfl, hT.out.drewN _⟩
end
end Go.Proofs.Ytfjnjhlmmdeilaa.Same
